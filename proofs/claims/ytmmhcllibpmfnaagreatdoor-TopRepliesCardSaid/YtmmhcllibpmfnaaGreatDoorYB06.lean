/- Parts LA28 MA28 KB28 KC28 KD28 KE28 PD04 PE04 PF04 PG04 PH04 PI04 PJ04 PK04. No condition. -/
import Derived.Test.YtmmhcllibpmfnaaGreatDoorYB03
import Derived.Test.YtmmhcllibpmfnaaGreatDoorYB05
import Derived.Lib.Bytealg
import Derived.Lib.IndexBytes
set_option maxRecDepth 100000
set_option maxHeartbeats 8000000
namespace Go.Proofs.YtmmhcllibpmfnaaGreatDoor
open Go.RowKit Go.Kb
def ZqK {D:Type}(k:Nat)(bs fs:Array Value)(e:Rep D)(f:D→Bool)(l:List D)(w:World):Prop:=
 (∀args w',(callFunc k args).run Tryz.prog w'= .ok (.enter k args) w')∧∀u d w',d∈l→Ext w w'→e.rel (fun _=>True) w' [u] d→Calls Tryz.prog k (bs.push u++fs) w' fun e w''=>e= .returned (.bool (f d))∧Ext w' w''
theorem ZqK.ext {D:Type}{k:Nat}{bs fs:Array Value}{e:Rep D}{f:D→Bool}{l:List D}{w w':World}(h:ZqK k bs fs e f l w)(hE:Ext w w'):ZqK k bs fs e f l w':=⟨h.1,fun cs d w2 h1 h2 hr=>h.2 cs d w2 h1 (hE.trans h2) hr⟩
theorem Zja {A:Nat→Prop}(k:Nat)(bs fs:Array Value)(f:Nat→Bool)(v:Value)(l:List Nat)(w:World)(h:RdY Zcn A w v l)(hf:ZqK k bs fs Zcn f l w):
  Calls Tryz.prog 407 #[v,.func (.func k) bs fs] w fun e w'=>e= .returned (.int .i64 (Zdq f l))∧Ext w w':=by
 obtain⟨Ad,c,rfl,hc1,hc2⟩:=h.shape
 have H:=zh (h.mono (B:=fun _=>True) fun _ _ _=>trivial)
 have HF:=zh hf
 obtain⟨n,hn⟩:=zm (l.length)
 rw[hn] at H hc1⊢
 have HN:=zh hn
 clear h hf hn
 go_enter Tryz.func407,Tryz.ntmps407
 go_wp2
 go_loopw [8] (fun i wr=>∃m:Nat,m≤n∧i= .int .i64 m∧Hid (∀p∈l.take m,f p=false)∧Ext w wr) (fun i _=>n - (intOf i).toNat)
 case atStart=>exact⟨0,Nat.zero_le _,rfl,zh (by simp),zX⟩
 case round=>
  obtain⟨m,hm,rfl,HD,hE⟩:=hrel
  by_cases hlt:m<n
  ·obtain⟨b,off,u,d,rfl,hcell,hd,hrel2⟩:=(H.out.ext hE).at1 rfl hlt
   have HA:=zh (HF.out.2 u d wr (List.mem_of_getElem? hd.out) hE hrel2.out)
   have HK:=HF.out.1
   cases hp:f d
   ·rw[hp] at HA
    have HP:=zh hp
    clear hp
    go_wp2_with(refine HA.out.mono ?_;rintro e w2 ⟨rfl,E2⟩)
    go_roundw
    case rel=>exact⟨m+1,by omega,by go_num,zh (by
     rw[List.take_add_one,hd.out]
     intro q hq
     rcases List.mem_append.1 hq with h|h
     ·exact HD.out q h
     ·simp at h;rw[h];exact HP.out),zX⟩
    case measure=>simp[intOf];omega
   ·rw[hp] at HA
    have HP:=zh hp
    clear hp
    go_wp2_with(refine HA.out.mono ?_;rintro e w2 ⟨rfl,E2⟩)
    go_ret
    exact⟨by rw[ZaZ hd.out HD.out HP.out];rfl,zX⟩
  ·go_wp2
   go_ret
   obtain rfl:m=l.length:=by have:=HN.out;omega
   have:=HD.out
   rw[List.take_length] at this
   exact⟨by rw[ZaD this];rfl,zX⟩
theorem Zhb {A:Nat→Prop}(k:Nat)(bs fs:Array Value)(f:Nat→Bool)(v:Value)(l:List Nat)(w:World)(h:RdY Zcn A w v l)(hf:ZqK k bs fs Zcn f l w)(hn:∀d∈l,f d=false):
  Calls Tryz.prog 395 #[v,.func (.func k) bs fs] w fun e w'=>e= .returned v∧Ext w w':=by
 obtain⟨Ad,c,rfl,-,-⟩:=h.shape
 have HI:=zh (Zja k bs fs f _ l w h hf)
 rw[ZaD hn] at HI
 clear h hf hn
 go_enter Tryz.func395,Tryz.ntmps395
 go_wp2_with fail
 refine(HI.out).mono ?_
 rintro e w1 ⟨rfl,E1⟩
 go_wp2
 go_ret
 exact⟨rfl,E1⟩
abbrev tskA (pid sess:Int):Array Value:=#[.int .i64 pid,.int .i64 sess,.int .i64 0,.int .i64 0,.int .i64 0,.int .i64 0,.bool false,.slice none 0 0]
theorem Zge (args:Array Value)(w:World):(callFunc 396 args).run Tryz.prog w= .ok (.enter 396 args) w:=by kernel_rfl
theorem Zku {A:Nat→Prop}(kb nb b:Nat)(pv tk ss kn:Value)(At:Option Addr)(ct:Nat)(l:List Tb.Pr)(nx pid sess:Int)(w:World)(h:Blk w kb 218 (ZeW pv (.slice At l.length ct) (.int .i64 nx) tk ss kn))(hr:RdY Tb.Rp A w (.slice At l.length ct) l)
  (hb:Blk w nb 140 #[.pointer (some ⟨kb,0,none⟩)]) (ht:Blk w b 329 (tskA pid sess)) (hl:Tb.ZbK l nx pid=true):
  Calls Tryz.prog 396 #[.pointer (some ⟨b,0,none⟩),.pointer (some ⟨nb,0,none⟩)] w fun e w'=>e= .returned (.bool false)∧Ext w w':=by
 have hiT:=zi Tryz.prog 79 2
 have HL:=zh (fun w' (E:Ext w w')=>Tb.ZdP At ct l nx pid w' (hr.ext E))
 rw[hl] at HL
 obtain⟨n,hn⟩:=zm (l.length)
 rw[hn] at HL h
 have k1:=h.cell 1
 have k2:=h.cell 2
 have b0:=hb.cell 0
 have t0:=ht.cell 0
 simp only[zG] at k1 k2 b0 t0
 have hLP:∀w',Ext w w'→∀i u,[.slice At n ct,.int .i64 nx][i]?=some u→w'.cell? ⟨kb,1+i,none⟩=some u:=by
  intro w' hSw i u hu
  rcases i with _|_|i
  ·simp at hu;rw[←hu];exact Zaa hSw k1
  ·simp at hu;rw[←hu];exact Zaa hSw k2
  ·simp at hu
 clear h hr hb ht hl hn
 go_enter Tryz.func396,Tryz.ntmps396
 go_upto_region 1 with fail
 refine zg (fun w'=>Ext w w') (Ext.drew (Ext.refl _)) fun hHeld=>?_
 obtain⟨D,hD⟩:=zn (w.drew)
 have ED:Ext w D:=by rw[hD];exact(Ext.refl _).drew
 rw[←hD] at hHeld⊢
 clear hD
 refine zv 0 b0 ?_
 refine zr 1 ?_
 refine zr 2 ?_
 (refine zU 3 rfl (yieldsIf_load_mid (by rfl) 79 _ rfl _ _ rfl [.slice At n ct,.int .i64 nx] _ (fun w' hSw=>(fun i u hu=>hLP w' hSw i u hu)) Tryz.underlying79 rfl hiT) ?_)
 refine zr 4 ?_
 refine zr 5 ?_
 refine zr 6 ?_
 refine zv 7 t0 ?_
 (refine zc 8 (HL.out D ED) ?_;rintro e w2 ⟨rfl,E2⟩ K hK;refine zo hK (ED.trans E2) fun hHeld=>?_;clear hK K)
 refine zr 9 ?_
 refine zr 10 ?_
 refine zd ?_
 go_wp2
 go_ret
 exact⟨rfl,hHeld⟩
structure TskAt (w:World)(bs:List Nat)(ts:List (Int×Int)):Prop where
 len:bs.length=ts.length
 blk:∀ (j:Nat) b x,bs[j]?=some b→ts[j]?=some x→Blk w b 329 (tskA x.1 x.2)
structure SesPipe (w:World)(b:Nat):Prop where
 blk:∃ (id ld i o r:Value),Blk w b 281 #[id,ld,.pointer none,i,o,r,.bool false,.bool false,.bool false,.int .i64 0]
theorem TskAt.keep {w w':World}{bs:List Nat}{ts:List (Int×Int)}(h:TskAt w bs ts)(hk:∀b∈bs,w'.heap[b]?=w.heap[b]?):TskAt w' bs ts:=
 ⟨h.len,fun j b x h1 h2=>by
  have h9:=h.blk j b x h1 h2
  unfold Blk at*
  rw[hk b (List.mem_of_getElem? h1)]
  exact h9⟩
theorem TskAt.mem {w:World}{bs:List Nat}{ts:List (Int×Int)}(h:TskAt w bs ts){b:Nat}(hb:b∈bs):∃x∈ts,Blk w b 329 (tskA x.1 x.2):=by
 obtain⟨j,hj,rfl⟩:=List.getElem_of_mem hb
 have hj2:j<ts.length:=by rw[←h.len];exact hj
 exact⟨ts[j],List.getElem_mem hj2,h.blk j _ _ (List.getElem?_eq_getElem hj) (List.getElem?_eq_getElem hj2)⟩
theorem TskAt.mod {S:Nat→Prop}{w w':World}{bs:List Nat}{ts:List (Int×Int)}(h:TskAt w bs ts)(M:Mod S w w')(hS:∀b∈bs,¬S b):TskAt w' bs ts:=
 h.keep (fun b hb=>M.block b (by obtain⟨x,_,h9⟩:=h.mem hb;exact h9.lt) (hS b hb))
theorem TskAt.ext {w w':World}{bs:List Nat}{ts:List (Int×Int)}(h:TskAt w bs ts)(E:Ext w w'):TskAt w' bs ts:=h.mod (Mod.of_ext (S:=fun _=>False) E) (fun _ _ h=>h)
theorem SesPipe.mod {S:Nat→Prop}{w w':World}{b:Nat}(h:SesPipe w b)(M:Mod S w w')(hS:¬S b):SesPipe w' b:=by
 obtain⟨id,ld,i,o,r,hb⟩:=h.blk
 exact⟨id,ld,i,o,r,hb.mod M hS⟩
theorem SesPipe.lt {w:World}{b:Nat}(h:SesPipe w b):b<w.heap.size:=by
 obtain⟨id,ld,i,o,r,hb⟩:=h.blk
 exact hb.lt
theorem Zap {w:World}{a b:Nat}{t t2:TypeId}{cs cs2:Array Value}(h:Blk w a t cs)(h2:Blk w b t2 cs2)(hne:t≠t2):a≠b:=by
 rintro rfl
 unfold Blk at h h2
 rw[h] at h2
 simp at h2
 exact hne h2.2
end Go.Proofs.YtmmhcllibpmfnaaGreatDoor
namespace Go.Kb
open Go.RowKit Go.Proofs.YtmmhcllibpmfnaaGreatDoor
def ZaT (ts:List TypeId)(base:Nat)(w:World)(k:Nat):Prop:=base≤k∧∃cs t fr,w.heap[k]?=some (.cells cs t fr)∧t∈ts
theorem ZaT.mono {ts ts2:List TypeId}{base base2:Nat}{w:World}{k:Nat}(h:ZaT ts base w k)(hs:∀t∈ts,t∈ts2)(hb:base2≤base):ZaT ts2 base2 w k:=by
 obtain⟨h1,cs,t,fr,h2,h3⟩:=h
 exact⟨by omega,cs,t,fr,h2,hs t h3⟩
def ZaR (ts:List TypeId)(base:Nat)(w w':World):Prop:=Mod (ZaT ts base w) w w'
theorem ZaR.trans {ts:List TypeId}{base:Nat}{a b c:World}(h:ZaR ts base a b)(h2:ZaR ts base b c):ZaR ts base a c:=
 Mod.transN h h2 (fun i hi hT=>by
  by_cases hA:ZaT ts base a i
  ·exact hA
  ·obtain⟨h1,cs,t,fr,h3,h4⟩:=hT
   rw[h.block i hi hA] at h3
   exact⟨h1,cs,t,fr,h3,h4⟩)
theorem ZaR.mono {ts ts2:List TypeId}{base base2:Nat}{a b:World}(h:ZaR ts base a b)(hs:∀t∈ts,t∈ts2)(hb:base2≤base):ZaR ts2 base2 a b:=Mod.mono h (fun _ _ hk=>hk.mono hs hb)
theorem ZaR.of_ext {ts:List TypeId}{base:Nat}{a b:World}(E:Ext a b):ZaR ts base a b:=Mod.of_ext E
theorem ZaR.of_mod {S:Nat→Prop}{ts:List TypeId}{base:Nat}{a b:World}(h:Mod S a b)(hS:∀k,k<a.heap.size→S k→ZaT ts base a k):ZaR ts base a b:=Mod.mono h hS
theorem Blk.ty {w:World}{k:Nat}{t:TypeId}{cs:Array Value}(h:Blk w k t cs){ts:List TypeId}{base:Nat}(ht:t∈ts)(hb:base≤k):ZaT ts base w k:=⟨hb,_,_,_,h,ht⟩
theorem Blk.nty {w:World}{k:Nat}{t:TypeId}{cs:Array Value}(h:Blk w k t cs){ts:List TypeId}{base:Nat}(ht:t∉ts):¬ZaT ts base w k:=by
 rintro⟨_,cs2,t2,fr2,h2,h3⟩
 unfold Blk at h
 rw[h] at h2
 simp at h2
 exact ht (by rw[h2.2.1];exact h3)
theorem OwnS.blkE {D:Type}{e:Rep D}{T:TypeId}{base:Nat}{B:Nat→Prop}{w:World}{v:Value}{l:List D}(h:OwnS e T base B w v l){k:Nat}(hk:v.ownBlock=some k):base≤k∧∃cs fr,w.heap[k]?=some (.cells cs T fr):=by
 refine⟨(h.row k hk).1,?_⟩
 obtain⟨us,ho,_⟩:=h
 obtain⟨_,⟨hv,_⟩|⟨g,cap,cur,hv,hb0,hb,_⟩⟩:=ho
 ·rw[hv] at hk;cases hk
 ·rw[hv] at hk
  have h9:some g=some k:=hk
  obtain rfl:=Option.some.inj h9
  exact⟨_,_,hb⟩
theorem OwnS.ty {D:Type}{e:Rep D}{T:TypeId}{base:Nat}{B:Nat→Prop}{w:World}{v:Value}{l:List D}(h:OwnS e T base B w v l){k:Nat}(hk:v.ownBlock=some k){ts:List TypeId}{base2:Nat}(ht:T∈ts)(hb:base2≤base):ZaT ts base2 w k:=by
 obtain⟨h1,cs,fr,h2⟩:=h.blkE hk
 exact⟨by omega,cs,T,fr,h2,ht⟩
theorem OwnS.nty {D:Type}{e:Rep D}{T:TypeId}{base:Nat}{B:Nat→Prop}{w:World}{v:Value}{l:List D}(h:OwnS e T base B w v l){k:Nat}(hk:v.ownBlock=some k){ts:List TypeId}{base2:Nat}(ht:T∉ts):¬ZaT ts base2 w k:=by
 obtain⟨h1,cs,fr,h2⟩:=h.blkE hk
 rintro⟨_,cs2,t2,fr2,h3,h4⟩
 rw[h2] at h3
 simp at h3
 exact ht (by rw[h3.2.1];exact h4)
theorem OwnS.modT {D:Type}{e:Rep D}{T:TypeId}{base:Nat}{w w':World}{v:Value}{l:List D}(h:OwnS e T base (fun _=>False) w v l){ts:List TypeId}{base2:Nat}(M:ZaR ts base2 w w')(ht:T∉ts):OwnS e T base (fun _=>False) w' v l:=
 h.mod M (fun _ hk=>h.nty hk ht) (fun _ _ hk=>hk.elim)
theorem Blk.modT {w w':World}{k:Nat}{t:TypeId}{cs:Array Value}(h:Blk w k t cs){ts:List TypeId}{base:Nat}(M:ZaR ts base w w')(ht:t∉ts):Blk w' k t cs:=h.mod M (h.nty ht)
end Go.Kb
namespace Go.Proofs.YtmmhcllibpmfnaaGreatDoor
open Go.RowKit Go.Kb
theorem Zai {D:Type}{e:Rep D}{T t:TypeId}{base:Nat}{B:Nat→Prop}{w:World}{v:Value}{l:List D}{g:Nat}{cs:Array Value}(h:OwnS e T base B w v l)(hb:Blk w g t cs)(hne:T≠t):v.ownBlock≠some g:=by
 obtain⟨us,ho,_⟩:=h
 exact Zal ho hb hne
theorem TskAt.snoc {w:World}{bs:List Nat}{ts:List (Int×Int)}{b:Nat}{x:Int×Int}(h:TskAt w bs ts)(hb:Blk w b 329 (tskA x.1 x.2)):TskAt w (bs++ [b]) (ts++ [x]):=by
 refine⟨by simp[h.len],fun j b2 x2 h1 h2=>?_⟩
 have hl:=h.len
 rcases Nat.lt_or_ge j bs.length with hj|hj
 ·rw[List.getElem?_append_left hj] at h1
  rw[List.getElem?_append_left (by omega)] at h2
  exact h.blk j b2 x2 h1 h2
 ·rw[List.getElem?_append_right hj] at h1
  rw[List.getElem?_append_right (by omega)] at h2
  have h9:=(List.getElem?_eq_some_iff.1 h1).1
  simp at h9
  have e1:j - bs.length=0:=by omega
  have e2:j - ts.length=0:=by omega
  rw[e1] at h1
  rw[e2] at h2
  simp at h1 h2
  rw[←h1,←h2]
  exact hb
def ZmO (kb base:Nat)(w:World)(pv:Value)(l:List Tb.Pr)(nx kn:Int)(tbs sbs:List Nat)(ts:List (Int×Int)):Prop:=
 base≤kb∧∃At ct tk ss,Blk w kb 218 (ZeW pv (.slice At l.length ct) (.int .i64 nx) tk ss (.int .i64 kn))∧OwnS Tb.Rp 234 base (fun _=>False) w (.slice At l.length ct) l∧
  OwnS Zcn 327 base (fun _=>False) w tk tbs∧TskAt w tbs ts∧OwnS Zcn 276 base (fun _=>False) w ss sbs∧(∀b∈sbs,SesPipe w b)
abbrev kTys:List TypeId:=[218,327,276]
theorem Zpp:(Tryz.prog.info? 327).map (fun i=>(i.zero,i.size,i.bytes))=some (some (.pointer none),Zcn.size,8):=by kernel_rfl
theorem Zpq:(Tryz.prog.info? 276).map (fun i=>(i.zero,i.size,i.bytes))=some (some (.pointer none),Zcn.size,8):=by kernel_rfl
def newP (nx prog:Int):Tb.Pr:=(Tb.Zic nx prog).newAs nx
theorem ZmP {A:Nat→Prop}(Ad:Option Addr)(c:Nat)(l:List Tb.Pr)(nx prog:Int)(w:World)(h:RdY Tb.Rp A w (.slice Ad l.length c) l)(hr:Tb.rightL l nx=true)(hl:l.length<32)(hnx:1≤nx∧nx≤1000):
  Calls Tryz.prog 365 #[.agg #[.slice Ad l.length c,.int .i64 nx],.int .i64 prog] w fun e w'=>∃A' c',e= .returned (.tuple #[.agg #[.slice A' (l.length+1) c',.int .i64 (nx+1)],.int .i64 nx,.int .i64 0])∧
   OwnS Tb.Rp 234 w.heap.size (fun _=>False) w' (.slice A' (l.length+1) c') (l++ [newP nx prog])∧Ext w w':=by
 have hw:Tb.Zct nx=nx+1:=by unfold Tb.Zct IntKind.wrap;simp[IntKind.bits,IntKind.signed];omega
 refine(Tb.Zkt Ad c l nx prog w h).mono ?_
 rintro e w' (⟨h1,-,-⟩|⟨-,E,⟨h1,-⟩|⟨-,A',c',rfl,ho⟩⟩)
 ·rw[hr] at h1;cases h1
 ·omega
 ·rw[hw]
  exact⟨A',c',rfl,ho,E⟩
theorem ZmO.ext {kb base:Nat}{w w':World}{pv:Value}{l:List Tb.Pr}{nx kn:Int}{tbs sbs:List Nat}{ts:List (Int×Int)}(h:ZmO kb base w pv l nx kn tbs sbs ts)(E:Ext w w'):ZmO kb base w' pv l nx kn tbs sbs ts:=by
 obtain⟨hkb,At,ct,tk,ss,HB,HP,HT,HTA,HS,HSA⟩:=h
 exact⟨hkb,At,ct,tk,ss,HB.ext E,HP.ext E,HT.ext E,HTA.ext E,HS.ext E,fun b hb=>(HSA b hb).mod (Mod.of_ext (S:=fun _=>False) E) (fun h=>h)⟩
theorem ZmO.modT {kb base:Nat}{w w':World}{pv:Value}{l:List Tb.Pr}{nx kn:Int}{tbs sbs:List Nat}{ts:List (Int×Int)}(h:ZmO kb base w pv l nx kn tbs sbs ts){tys:List TypeId}{base2:Nat}(M:ZaR tys base2 w w')
  (h1:218∉tys) (h2:234∉tys) (h3:327∉tys) (h4:329∉tys) (h5:276∉tys) (h6:281∉tys):ZmO kb base w' pv l nx kn tbs sbs ts:=by
 obtain⟨hkb,At,ct,tk,ss,HB,HP,HT,HTA,HS,HSA⟩:=h
 refine⟨hkb,At,ct,tk,ss,HB.modT M h1,HP.modT M h2,HT.modT M h3,HTA.mod M (fun b hb=>?_),HS.modT M h5,fun b hb=>(HSA b hb).mod M ?_⟩
 ·obtain⟨x,_,h9⟩:=HTA.mem hb
  exact h9.nty h4
 ·obtain⟨id,ld,i,o,r,hb9⟩:=(HSA b hb).blk
  exact hb9.nty h6
theorem Zss {x:Ln}{u:Value}(h:x.sc[0]?=some u):(lnL x)[1]?=some u:=by
 unfold lnL
 rw[List.getElem?_cons_succ,List.getElem?_append_left (List.getElem?_eq_some_iff.1 h).1]
 exact h
theorem Zgf {x:Ln}(h:x.sc.length=32):(lnL x)[33]?=some (.int .i64 x.kid):=by
 unfold lnL
 rw[List.getElem?_cons_succ,List.getElem?_append_right (by omega),h]
 rfl
theorem Zkv {x:Ln}(h:x.sc.length=32)(k:Int):(lnL x).toArray.setIfInBounds 33 (.int .i64 k)=(lnL {x with kid:=k}).toArray:=by
 unfold lnL
 rw[List.setIfInBounds_toArray,List.set_cons_succ,List.set_append_right _ _ (by omega),h]
 rfl
def Zay (s:ByteArray)(least:Int):Int:=if decide (least≤(s.size:Int))&&decide (s.size≤64)&& (bsL s).all (fun c=>decide (33≤c∧c≤126)) then 0 else 4
theorem Zkw {s:ByteArray}{least:Int}(h1:least≤(s.size:Int))(h2:s.size≤64)(h3:∀c∈bsL s,33≤c∧c≤126):Zay s least=0:=by
 unfold Zay
 rw[if_pos]
 simp only[Bool.and_eq_true,decide_eq_true_eq,List.all_eq_true]
 exact⟨⟨h1,h2⟩,h3⟩
theorem ZbX {s:ByteArray}{least:Int}(h:¬(least≤(s.size:Int)∧s.size≤64∧∀c∈bsL s,33≤c∧c≤126)):Zay s least=4:=by
 unfold Zay
 rw[if_neg]
 simp only[Bool.and_eq_true,decide_eq_true_eq,List.all_eq_true]
 exact fun h9=>h ⟨h9.1.1,h9.1.2,h9.2⟩
theorem Zjb {s:ByteArray}{least:Int}(h:Zay s least=0):s.size≤64:=by
 apply Classical.byContradiction
 intro hn
 rw[ZbX (fun h9=>hn h9.2.1)] at h
 cases h
theorem Zcu (s:ByteArray)(least:Int)(w:World):Calls Tryz.prog 201 #[.string s,.int .i64 least] w fun e w'=>e= .returned (.int .i64 (Zay s least))∧Ext w w':=by
 have HL:=zh (ZcM s)
 have HIX:=zh (ZhW s)
 obtain⟨z,hz⟩:=zm (Zay s least)
 rw[hz]
 have HZ:=zh hz
 clear hz
 obtain⟨N,hN⟩:=zm (s.size)
 have hg:goInt (s.size:Int)= .int .i64 (N:Int):=by rw[hN];rfl
 have HN:=zh hN
 by_cases h1:(N:Int)<least
 ·have h0:z=4:=by rw[←HZ.out];exact ZbX (fun h=>by have:=h.1;rw[HN.out] at this;omega)
  subst h0
  go_enter Tryz.func201,Tryz.ntmps201
  go_wp2
  go_ret
  exact⟨rfl,zX⟩
 ·by_cases h2:64<N
  ·have h3:(64:Int)<N:=by omega
   have h0:z=4:=by rw[←HZ.out];exact ZbX (fun h=>by have:=h.2.1;rw[HN.out] at this;omega)
   subst h0
   go_enter Tryz.func201,Tryz.ntmps201
   go_wp2
   go_ret
   exact⟨rfl,zX⟩
  ·have h3:¬(64:Int)<N:=by omega
   go_enter Tryz.func201,Tryz.ntmps201
   go_wp2
   go_loopw [17] (fun i wr=>∃m:Nat,m≤N∧i= .int .i64 m∧Hid (∀c∈(bsL s).take m,33≤c∧c≤126)∧Hid (Ext w wr)) (fun i _=>N - (intOf i).toNat)
   case atStart=>exact⟨0,Nat.zero_le _,rfl,zh (by simp),zh (Ext.refl _)⟩
   case round=>
    obtain⟨m,hm,rfl,HC,hE⟩:=hrel
    by_cases hmn:m<N
    ·obtain⟨c,hc,hix⟩:=HIX.out m (by rw[hN];exact hmn)
     by_cases c1:c<33
     ·have h0:z=4:=by rw[←HZ.out];exact ZbX (fun h=>by have:=(h.2.2 c (List.mem_of_getElem? hc.out)).1;omega)
      subst h0
      go_wp2
      go_ret
      exact⟨rfl,hE.out⟩
     ·by_cases c2:126<c
      ·have h0:z=4:=by rw[←HZ.out];exact ZbX (fun h=>by have:=(h.2.2 c (List.mem_of_getElem? hc.out)).2;omega)
       subst h0
       go_wp2
       go_ret
       exact⟨rfl,hE.out⟩
      ·go_wp2
       go_roundw
       case rel=>exact⟨m+1,by omega,by go_num,zh (by
        rw[List.take_add_one,hc.out]
        intro x hx
        rcases List.mem_append.1 hx with h|h
        ·exact HC.out x h
        ·simp at h;rw[h];omega),hE⟩
       case measure=>simp[intOf];omega
    ·obtain rfl:m=N:=by omega
     have h0:z=0:=by
      rw[←HZ.out]
      have h9:=HC.out
      rw[←HN.out,←HL.out,List.take_length] at h9
      exact Zkw (by rw[HN.out];omega) (by rw[HN.out];omega) h9
     subst h0
     go_wp2
     go_ret
     exact⟨rfl,hE.out⟩
def ZaP (n:Int):Int:=if 1024<n then 6 else 0
theorem ZdR (n:Int)(w:World):Calls Tryz.prog 202 #[.int .i64 n] w fun e w'=>e= .returned (.int .i64 (ZaP n))∧Ext w w':=by
 by_cases h:1024<n
 ·rw[show ZaP n=6 from if_pos h]
  go_enter Tryz.func202,Tryz.ntmps202
  go_wp2
  go_ret
  exact⟨rfl,zX⟩
 ·rw[show ZaP n=0 from if_neg h]
  go_enter Tryz.func202,Tryz.ntmps202
  go_wp2
  go_ret
  exact⟨rfl,zX⟩
def Zax:List Int→Int| []=>0|e::r=>if e=0 then Zax r else e
theorem Zeg {l:List Int}{j:Nat}(h:∀e∈l.take j,e=0):Zax l=Zax (l.drop j):=by
 induction l generalizing j with
 |nil=>simp
 |cons a r ih=>
  cases j with
  |zero=>rfl
  |succ j=>
   have ha:a=0:=h a (by simp)
   rw[List.drop_succ_cons,←ih (fun e he=>h e (by simp[he]))]
   simp[Zax,ha]
theorem Zeh (v:Value)(l:List Int)(w:World)(h:RI .i64 w v l):Calls Tryz.prog 200 #[v] w fun e w'=>e= .returned (.int .i64 (Zax l))∧Ext w w':=by
 obtain⟨A,c,rfl,hc1,hc2⟩:=h.shape
 obtain⟨N,hN⟩:=zm (l.length)
 have HN:=zh hN
 obtain⟨z,hz⟩:=zm (Zax l)
 rw[hz]
 have HZ:=zh hz
 have H:=zh (show RdN w 1 (.slice A N c) l.length (l.map (Value.int .i64)) by rw[←hN];exact h)
 rw[hN] at hc1⊢
 clear h hN hz
 go_enter Tryz.func200,Tryz.ntmps200
 go_wp2
 go_loopw [7] (fun i wr=>∃m:Nat,m≤N∧i= .int .i64 m∧Hid (∀e∈l.take m,e=0)∧Hid (Ext w wr)) (fun i _=>N - (intOf i).toNat)
 case atStart=>exact⟨0,Nat.zero_le _,rfl,zh (by simp),zh (Ext.refl _)⟩
 case round=>
  obtain⟨m,hm,rfl,HC,hE⟩:=hrel
  by_cases hmn:m<N
  ·obtain⟨b,off,x,rfl,hx,hd⟩:=(RdN.ext H.out hE.out).icell hmn
   by_cases hx0:x=0
   ·subst hx0
    go_wp2
    go_roundw
    case rel=>exact⟨m+1,by omega,by go_num,zh (by
     rw[List.take_add_one,hd.out]
     intro e he
     rcases List.mem_append.1 he with h|h
     ·exact HC.out e h
     ·simpa using h),hE⟩
    case measure=>simp[intOf];omega
   ·have hxb:(x==0)=false:=by simpa using hx0
    have hzx:z=x:=by
     rw[←HZ.out,Zeg HC.out]
     have h9:=hd.out
     obtain⟨hlt,h8⟩:=List.getElem?_eq_some_iff.1 h9
     rw[List.drop_eq_getElem_cons hlt,h8]
     simp[Zax,hx0]
    subst hzx
    go_wp2
    go_ret
    exact⟨rfl,hE.out⟩
  ·obtain rfl:m=N:=by omega
   have hz0:z=0:=by
    rw[←HZ.out,Zeg HC.out,List.drop_of_length_le (by rw[HN.out];exact Nat.le_refl _)]
    rfl
   subst hz0
   go_wp2
   go_ret
   exact⟨rfl,hE.out⟩
def Zcv (s:ByteArray):Bool:=decide (0≤Go.Lib.indexByte s.data.toList 61)
theorem Zpr (s:ByteArray)(w:World):Calls Tryz.prog 335 #[.string s,.int .u8 61] w fun e w'=>e= .returned (.int .i64 (Go.Lib.indexByte s.data.toList 61))∧Ext w w':=by
 go_enter Tryz.func335,Tryz.ntmps335
 go_wp2
 rw[run_callFunc_extern Tryz.func371 (by kernel_rfl) (by kernel_rfl) (by kernel_rfl) (e:=Extern.BytealgIndexByte.indexByte) (by kernel_rfl),Go.Lib.run_indexByteString]
 simp only[Result.andThen]
 rw[Oper.upon_value]
 go_wp2
 go_ret
 exact⟨rfl,zX⟩
theorem Zjc (s:ByteArray)(w:World):Calls Tryz.prog 299 #[.string s,.string ⟨#[61]⟩] w fun e w'=>e= .returned (.int .i64 (Go.Lib.indexByte s.data.toList 61))∧Ext w w':=by
 cases hb:(([61]:List UInt8)==s.toList) with
 |true=>
  have hs:s.data.toList=[61]:=(Go.Lib.toList_data s).symm.trans (beq_iff_eq.1 hb).symm
  have h0:Go.Lib.indexByte s.data.toList 61=0:=by rw[hs];rfl
  have H0:=zh h0
  clear hs h0
  go_enter Tryz.func299,Tryz.ntmps299
  go_wp2
  go_ret
  exact⟨by rw[H0.out];rfl,zX⟩
 |false=>
  have h61:((({data:=#[61]}:ByteArray)[0].toNat:Nat):Int)=61:=by rfl
  go_enter Tryz.func299,Tryz.ntmps299
  go_wp2_with fail
  refine(Zpr s _).mono ?_
  rintro e w1 ⟨rfl,E1⟩
  go_wp2
  go_ret
  exact⟨rfl,zX⟩
theorem Zjd (s:ByteArray)(w:World):Calls Tryz.prog 260 #[.string s,.string ⟨#[61]⟩] w fun e w'=>e= .returned (.int .i64 (Go.Lib.indexByte s.data.toList 61))∧Ext w w':=by
 go_enter Tryz.func260,Tryz.ntmps260
 go_wp2_with fail
 refine(Zjc s _).mono ?_
 rintro e w1 ⟨rfl,E1⟩
 go_wp2
 go_ret
 exact⟨rfl,zX⟩
theorem Zfq (s:ByteArray)(w:World):Calls Tryz.prog 204 #[.string s,.string ⟨#[61]⟩] w fun e w'=>e= .returned (.bool (Zcv s))∧Ext w w':=by
 obtain⟨n,hn⟩:=zm (Go.Lib.indexByte s.data.toList 61)
 have HI:=zh (fun w'=>Zjd s w')
 unfold Zcv
 rw[hn] at HI⊢
 clear hn
 go_enter Tryz.func204,Tryz.ntmps204
 go_wp2_with fail
 refine(HI.out _).mono ?_
 rintro e w1 ⟨rfl,E1⟩
 go_wp2
 go_ret
 exact⟨rfl,zX⟩
theorem Zbm (s:ByteArray)(A:Nat→Prop)(w:World)(hs:s.size≤1000000):Calls Tryz.prog 203 #[.string s] w (ZjR A 0 (bsL s) w):=by
 have hi:=zi Tryz.prog 86 4
 have HCV:∀ (b:ByteArray) w',(convert 9 43 (.string b)).run Tryz.prog w'=_:=fun b w'=>run_bytes_of_string w' 9 43 5 b Tryz.underlying9 Tryz.underlying43 Tryz.underlying5
 have B0:=zh (Blk.new w 86 #[.int .i64 0,.int .u32 0,.slice none 0 0,.slice none 0 0])
 go_enter Tryz.func203,Tryz.ntmps203
 go_wp2_with(refine wpList_store_row rfl 86 _ _ rfl w.heap.size _ rfl rfl 86 _ (B0.out.ext zX) hi rfl (by simp[Value.oneCell']) ?_)
 refine bodyPost_ret_by (results_cell_row Tryz.results203 _ _ w.heap.size 86 _ _ _ rfl (Blk.setRow (B0.out.ext zX) _) Tryz.underlying86 rfl hi) rfl ?_
 refine⟨_,rfl,RdS.mono (RdS.mod (RdS.ext (Zg3 s _ _ _ (n:=w.heap.size+1) (by simp) (grownCap_ge _ _ _ _) (grownCap_le_maxLen _ _ _ _ (by simp[maxLen];omega))) (Ext.drew (Ext.refl _))) (ZbV _) (fun k _ hk=>by omega)) (fun k _ hk=>.inr (by omega)),Zah (show Below w.heap.size w _ from zX) (Nat.le_refl _) _⟩
theorem Zgg (x:Bool)(A:Nat→Prop)(w:World):Calls Tryz.prog 205 #[.bool x] w (ZjR A (if x=true then 1 else 0) [] w):=by
 have hi:=zi Tryz.prog 86 4
 cases x with
 |true=>
  go_enter Tryz.func205,Tryz.ntmps205
  go_wp2_with(refine wpList_store_A rfl 86 _ _ rfl w.heap.size _ rfl rfl 86 _ (show Blk _ _ _ _ from Blk.at_ _ _ (by simp)) hi rfl (by simp[Value.oneCell']) ?_;intro w2 HB E2;have E2:=E2 w.heap.size w zX (Nat.le_refl _))
  refine bodyPost_ret_by (results_cell_row Tryz.results205 _ _ w.heap.size 86 _ _ _ rfl HB Tryz.underlying86 rfl hi) rfl ?_
  exact⟨_,rfl,RdS.nil _ _ _,E2⟩
 |false=>
  go_enter Tryz.func205,Tryz.ntmps205
  go_wp2_with(refine wpList_store_A rfl 86 _ _ rfl w.heap.size _ rfl rfl 86 _ (show Blk _ _ _ _ from Blk.at_ _ _ (by simp)) hi rfl (by simp[Value.oneCell']) ?_;intro w2 HB E2;have E2:=E2 w.heap.size w zX (Nat.le_refl _))
  refine bodyPost_ret_by (results_cell_row Tryz.results205 _ _ w.heap.size 86 _ _ _ rfl HB Tryz.underlying86 rfl hi) rfl ?_
  exact⟨_,rfl,RdS.nil _ _ _,E2⟩
structure Rq where
 k:Int
 tx:ByteArray
 vl:ByteArray
 la:ByteArray
 c1:Int
 c2:Int
 c3:Int
 c4:Int
 mo:List Int
 on:Bool
 co:Int
abbrev rqA (r:Rq)(v:Value):Array Value:=#[.int .i64 r.k,.string r.tx,.string r.vl,.string r.la,.int .u32 r.c1,.int .u32 r.c2,.int .u32 r.c3,.int .u32 r.c4,v,.bool r.on,.int .u32 r.co]
structure RqC (w:World)(g:Nat)(r:Rq)(v:Value):Prop where
 k0:w.cell? ⟨g,0,none⟩=some (.int .i64 r.k)
 k1:w.cell? ⟨g,1,none⟩=some (.string r.tx)
 k2:w.cell? ⟨g,2,none⟩=some (.string r.vl)
 k3:w.cell? ⟨g,3,none⟩=some (.string r.la)
 k4:w.cell? ⟨g,4,none⟩=some (.int .u32 r.c1)
 k5:w.cell? ⟨g,5,none⟩=some (.int .u32 r.c2)
 k6:w.cell? ⟨g,6,none⟩=some (.int .u32 r.c3)
 k7:w.cell? ⟨g,7,none⟩=some (.int .u32 r.c4)
 k8:w.cell? ⟨g,8,none⟩=some v
 k9:w.cell? ⟨g,9,none⟩=some (.bool r.on)
 k10:w.cell? ⟨g,10,none⟩=some (.int .u32 r.co)
theorem rqC {w:World}{g:Nat}{t:TypeId}{r:Rq}{v:Value}(h:Blk w g t (rqA r v)):RqC w g r v:=
 ⟨by simpa using h.cell 0,by simpa using h.cell 1,by simpa using h.cell 2,by simpa using h.cell 3,by simpa using h.cell 4,by simpa using h.cell 5,by simpa using h.cell 6,by simpa using h.cell 7,by simpa using h.cell 8,by simpa using h.cell 9,by simpa using h.cell 10⟩
def GqP (r:Rq)(w:World)(e:Ending)(w':World):Prop:=
 ∃q:Bool,e= .returned (.bool q)∧(q=false→r.tx.size≤10000∧r.vl.size≤10000∧r.la.size≤10000∧r.mo.length≤10000)∧Ext w w'
theorem Zje (r:Rq)(Av:Option Addr)(cv:Nat)(w:World):Calls Tryz.prog 10 #[.agg (rqA r (.slice Av r.mo.length cv))] w (GqP r w):=by
 obtain⟨k,tx,vl,la,c1,c2,c3,c4,mo,on,co⟩:=r
 dsimp only
 obtain⟨L,hL⟩:=zm (mo.length)
 have HL:=zh hL
 rw[hL]
 clear hL
 go_enter Tryz.func10,Tryz.ntmps10
 go_wp2
 all_goals first
  |(go_ret;exact⟨true,rfl,(fun h=>by cases h),zX⟩)
  |(go_ret;refine⟨_,rfl,fun h=>?_,zX⟩;simp only[Bool.or_eq_false_iff,decide_eq_false_iff_not] at h;have:=HL.out;exact⟨by dsimp only;omega,by dsimp only;omega,by dsimp only;omega,by dsimp only;omega⟩)
def Zbe (r:Rq):Int:=
 if r.k=1 then Zax [Zay r.tx 0,ZaP r.mo.length] else if r.k=2 then(if Zcv r.tx=true then 4 else Zax [Zay r.tx 1,ZaP r.vl.size]) else if r.k=4 then ZaP r.tx.size else if r.k=5∨r.k=8 then Zay r.tx 1 else if r.k=10 then Zax [Zay r.tx 1,Zay r.la 0,ZaP r.vl.size] else 0
def Zgh (q:Int)(w:World)(e:Ending)(w':World):Prop:=e= .returned (.int .i64 q)∧Ext w w'
theorem ZdS (g:Nat)(w:World):Calls Tryz.prog 114 #[.pointer (some ⟨g,0,none⟩)] w (Zgh 0 w):=by
 go_enter Tryz.func114,Tryz.ntmps114
 go_wp2
 go_ret
 exact⟨rfl,zX⟩
theorem Zid (g:Nat)(r:Rq)(v:Value)(w:World)(h:Blk w g 119 (rqA r v)):Calls Tryz.prog 118 #[.pointer (some ⟨g,0,none⟩)] w (Zgh (Zay r.tx 1) w):=by
 have kc:=(rqC h).k1
 have HW:=zh (fun w'=>Zcu r.tx 1 w')
 obtain⟨z,hz⟩:=zm (Zay r.tx 1)
 rw[hz] at HW⊢
 clear h hz
 go_enter Tryz.func118,Tryz.ntmps118
 go_wp2_with fail
 refine(HW.out _).mono ?_
 rintro e w1 ⟨rfl,E1⟩
 go_wp2
 go_ret
 exact⟨rfl,zX⟩
theorem ZmQ (g:Nat)(r:Rq)(v:Value)(w:World)(h:Blk w g 119 (rqA r v)):Calls Tryz.prog 117 #[.pointer (some ⟨g,0,none⟩)] w (Zgh (ZaP r.tx.size) w):=by
 have kc:=(rqC h).k1
 have HW:=zh (fun w'=>ZdR r.tx.size w')
 obtain⟨z,hz⟩:=zm (ZaP r.tx.size)
 rw[hz] at HW⊢
 clear h hz
 go_enter Tryz.func117,Tryz.ntmps117
 go_wp2_with fail
 refine(HW.out _).mono ?_
 rintro e w1 ⟨rfl,E1⟩
 go_wp2
 go_ret
 exact⟨rfl,zX⟩
theorem Zps (g:Nat)(r:Rq)(Av:Option Addr)(cv:Nat)(w:World)(h:Blk w g 119 (rqA r (.slice Av r.mo.length cv))):Calls Tryz.prog 108 #[.pointer (some ⟨g,0,none⟩)] w (Zgh (Zax [Zay r.tx 0,ZaP r.mo.length]) w):=by
 have kt:=(rqC h).k1
 have km:=(rqC h).k8
 have HW:=zh (fun w'=>Zcu r.tx 0 w')
 obtain⟨L,hL⟩:=zm (r.mo.length)
 rw[hL] at km⊢
 have HO:=zh (fun w'=>ZdR (L:Int) w')
 obtain⟨z1,hz1⟩:∃z,Zay r.tx 0=z:=⟨_,rfl⟩
 obtain⟨z2,hz2⟩:∃z,ZaP (L:Int)=z:=⟨_,rfl⟩
 rw[hz1] at HW⊢
 rw[hz2] at HO⊢
 have HF:=zh (fun v' w' (h':RI .i64 w' v' [z1,z2])=>Zeh v' [z1,z2] w' h')
 obtain⟨z,hz⟩:=zm (Zax [z1,z2])
 rw[hz] at HF⊢
 clear h hL hz1 hz2 hz
 go_enter Tryz.func108,Tryz.ntmps108
 go_upto_region 1 with fail
 refine zg (fun w'=>Ext w w') (Ext.drew (Ext.refl _)) fun hHeld=>?_
 refine zr 0 ?_
 refine zr 1 ?_
 refine zr 2 ?_
 refine zr 3 ?_
 refine zv 4 kt ?_
 refine zr 6 ?_
 refine zr 7 ?_
 refine zr 8 ?_
 refine zr 9 ?_
 refine zv 10 km ?_
 refine zr 11 ?_
 (refine zc 5 (HW.out _) ?_;rintro e w1 ⟨rfl,E1⟩ K hK;refine zo hK zX fun hHeld=>?_;clear hK K)
 have E01:Ext w w1:=zX
 (refine zc 12 (HO.out _) ?_;rintro e w2 ⟨rfl,E2⟩ K hK;refine zo hK zX fun hHeld=>?_;clear hK K)
 have E02:Ext w w2:=E01.trans E2
 (refine za 13 (E02.alloc _) fun hHeld=>?_)
 (refine zc 14 (HF.out _ _ (RI.lit .i64 [z1,z2] 26 rfl (by simp))) ?_;rintro e w3 ⟨rfl,E3⟩ K hK;refine zo hK ((E02.alloc _).trans E3) fun hHeld=>?_;clear hK K)
 refine zr 15 ?_
 refine zd ?_
 go_wp2
 go_ret
 exact⟨rfl,hHeld⟩
theorem Zpt (g:Nat)(r:Rq)(v:Value)(w:World)(h:Blk w g 119 (rqA r v)):Calls Tryz.prog 111 #[.pointer (some ⟨g,0,none⟩)] w (Zgh (if Zcv r.tx=true then 4 else Zax [Zay r.tx 1,ZaP r.vl.size]) w):=by
 have kt:=(rqC h).k1
 have HB:=zh h
 have HC:=zh (fun w'=>Zfq r.tx w')
 have HW:=zh (fun w'=>Zcu r.tx 1 w')
 have HO:=zh (fun w'=>ZdR (r.vl.size:Int) w')
 obtain⟨z1,hz1⟩:∃z,Zay r.tx 1=z:=⟨_,rfl⟩
 obtain⟨z2,hz2⟩:∃z,ZaP (r.vl.size:Int)=z:=⟨_,rfl⟩
 rw[hz1] at HW⊢
 rw[hz2] at HO⊢
 have HF:=zh (fun v' w' (h':RI .i64 w' v' [z1,z2])=>Zeh v' [z1,z2] w' h')
 obtain⟨z,hz⟩:=zm (Zax [z1,z2])
 rw[hz] at HF⊢
 clear h hz1 hz2 hz
 cases hh:Zcv r.tx with
 |true=>
  rw[hh] at HC
  rw[if_pos rfl]
  clear hh
  go_enter Tryz.func111,Tryz.ntmps111
  go_wp2_with fail
  refine(HC.out _).mono ?_
  rintro e w1 ⟨rfl,E1⟩
  go_wp2
  go_ret
  exact⟨rfl,zX⟩
 |false=>
  rw[hh] at HC
  rw[if_neg (by decide)]
  clear hh
  go_enter Tryz.func111,Tryz.ntmps111
  go_wp2_with fail
  refine(HC.out _).mono ?_
  rintro e w1 ⟨rfl,E1⟩
  have kt:=(rqC (HB.out.ext E1)).k1
  have kv:=(rqC (HB.out.ext E1)).k2
  have E01:Ext w w1:=zX
  go_upto_region 3 with fail
  refine zg (fun w'=>Ext w1 w') (Ext.drew (Ext.refl _)) fun hHeld=>?_
  refine zr 0 ?_
  refine zr 1 ?_
  refine zr 2 ?_
  refine zr 3 ?_
  refine zv 4 kt ?_
  refine zr 6 ?_
  refine zr 7 ?_
  refine zr 8 ?_
  refine zr 9 ?_
  refine zv 10 kv ?_
  refine zr 11 ?_
  (refine zc 5 (HW.out _) ?_;rintro e w2 ⟨rfl,E2⟩ K hK;refine zo hK zX fun hHeld=>?_;clear hK K)
  have E12:Ext w1 w2:=zX
  (refine zc 12 (HO.out _) ?_;rintro e w3 ⟨rfl,E3⟩ K hK;refine zo hK zX fun hHeld=>?_;clear hK K)
  have E13:Ext w1 w3:=E12.trans E3
  (refine za 13 (E13.alloc _) fun hHeld=>?_)
  (refine zc 14 (HF.out _ _ (RI.lit .i64 [z1,z2] 26 rfl (by simp))) ?_;rintro e w4 ⟨rfl,E4⟩ K hK;refine zo hK ((E13.alloc _).trans E4) fun hHeld=>?_;clear hK K)
  refine zr 15 ?_
  refine zd ?_
  go_wp2
  go_ret
  exact⟨rfl,E01.trans hHeld⟩
theorem Zkx (g:Nat)(r:Rq)(v:Value)(w:World)(h:Blk w g 119 (rqA r v)):Calls Tryz.prog 127 #[.pointer (some ⟨g,0,none⟩)] w (Zgh (Zax [Zay r.tx 1,Zay r.la 0,ZaP r.vl.size]) w):=by
 have kt:=(rqC h).k1
 have kl:=(rqC h).k3
 have kv:=(rqC h).k2
 have HW:=zh (fun w'=>Zcu r.tx 1 w')
 have HV:=zh (fun w'=>Zcu r.la 0 w')
 have HO:=zh (fun w'=>ZdR (r.vl.size:Int) w')
 obtain⟨z1,hz1⟩:∃z,Zay r.tx 1=z:=⟨_,rfl⟩
 obtain⟨z3,hz3⟩:∃z,Zay r.la 0=z:=⟨_,rfl⟩
 obtain⟨z2,hz2⟩:∃z,ZaP (r.vl.size:Int)=z:=⟨_,rfl⟩
 rw[hz1] at HW⊢
 rw[hz3] at HV⊢
 rw[hz2] at HO⊢
 have HF:=zh (fun v' w' (h':RI .i64 w' v' [z1,z3,z2])=>Zeh v' [z1,z3,z2] w' h')
 obtain⟨z,hz⟩:=zm (Zax [z1,z3,z2])
 rw[hz] at HF⊢
 clear h hz1 hz2 hz3 hz
 go_enter Tryz.func127,Tryz.ntmps127
 go_upto_region 1 with fail
 refine zg (fun w'=>Ext w w') (Ext.drew (Ext.refl _)) fun hHeld=>?_
 refine zr 0 ?_
 refine zr 1 ?_
 refine zr 2 ?_
 refine zr 3 ?_
 refine zv 4 kt ?_
 refine zr 6 ?_
 refine zr 7 ?_
 refine zr 8 ?_
 refine zr 9 ?_
 refine zv 10 kl ?_
 refine zr 12 ?_
 refine zr 13 ?_
 refine zr 14 ?_
 refine zr 15 ?_
 refine zv 16 kv ?_
 refine zr 17 ?_
 (refine zc 5 (HW.out _) ?_;rintro e w1 ⟨rfl,E1⟩ K hK;refine zo hK zX fun hHeld=>?_;clear hK K)
 have E01:Ext w w1:=zX
 (refine zc 11 (HV.out _) ?_;rintro e w2 ⟨rfl,E2⟩ K hK;refine zo hK zX fun hHeld=>?_;clear hK K)
 have E02:Ext w w2:=E01.trans E2
 (refine zc 18 (HO.out _) ?_;rintro e w3 ⟨rfl,E3⟩ K hK;refine zo hK zX fun hHeld=>?_;clear hK K)
 have E03:Ext w w3:=E02.trans E3
 (refine za 19 (E03.alloc _) fun hHeld=>?_)
 (refine zc 20 (HF.out _ _ (RI.lit .i64 [z1,z3,z2] 26 rfl (by simp))) ?_;rintro e w4 ⟨rfl,E4⟩ K hK;refine zo hK ((E03.alloc _).trans E4) fun hHeld=>?_;clear hK K)
 refine zr 21 ?_
 refine zd ?_
 go_wp2
 go_ret
 exact⟨rfl,hHeld⟩
def Zgi (A:Nat→Prop)(fs:List Fd)(w:World)(e:Ending)(w':World):Prop:=
 ∃v,e= .returned v∧OwnS FdR 86 w.heap.size (fun k=>A k∨w.heap.size≤k) w' v fs∧Ext w w'
theorem fdE {A:Nat→Prop}{w:World}{k n:Int}{vt:Value}{t:List Int}(h:RdS Ub8 A w vt t):RdE FdR A w [.int .i64 k,.int .u32 n,vt,.slice none 0 0] [⟨k,n,t⟩]:=RdE.single (e:=FdR) ⟨vt,rfl,h⟩
theorem Za6 {A B:Nat→Prop}{w:World}{cs:List Value}{fs:List Fd}{base m:Nat}(h:RdE FdR A w cs fs)(hA:∀k,k<w.heap.size→A k→B k)(hb:base≤w.heap.size)(hm:fs.length=m)(hx:m≤1000):
  OwnS FdR 86 base B (w.alloc (.cells cs.toArray 86)) (.slice (some ⟨w.heap.size,0,none⟩) m m) fs:=
 OwnS.litB (A:=fun k=>A k∧k<w.heap.size) (h.keep (fun k hk ha=>⟨⟨ha,hk⟩,((Ext.refl w).alloc _).block k hk⟩)) (Blk.new _ _ _) (fun k _ hk=>⟨hA k hk.2 hk.1,by omega⟩) hb hm (by omega)
theorem ZmR (g:Nat)(A:Nat→Prop)(w:World):Calls Tryz.prog 112 #[.pointer (some ⟨g,0,none⟩)] w (Zgi A [] w):=by
 go_enter Tryz.func112,Tryz.ntmps112
 go_wp2
 go_ret
 exact⟨_,rfl,OwnS.nil _ _ _ _ _,zX⟩
theorem ZdT (g:Nat)(r:Rq)(v:Value)(A:Nat→Prop)(w:World)(h:Blk w g 119 (rqA r v))(hs:r.tx.size≤1000000):Calls Tryz.prog 115 #[.pointer (some ⟨g,0,none⟩)] w (Zgi A [⟨0,0,bsL r.tx⟩] w):=by
 have kc:=(rqC h).k1
 have HT:=zh (fun w'=>Zbm r.tx A w' hs)
 clear h hs
 go_enter Tryz.func115,Tryz.ntmps115
 go_wp2_with fail
 refine(HT.out _).mono ?_
 rintro e w1 ⟨vt,rfl,T1,E1⟩
 obtain⟨At,ct,rfl,-,-⟩:=T1.shape
 have E01:Ext w w1:=zX
 have HO:=zh (Za6 (B:=fun k=>A k∨w.heap.size≤k) (base:=w.heap.size) (m:=1) (fdE (k:=0) (n:=0) T1) (fun k _ hk=>by first|exact hk|simpa using hk) E01.size rfl (by omega))
 have EE:=zh (E01.alloc (.cells #[.int .i64 0,.int .u32 0,.slice At (bsL r.tx).length ct,.slice none 0 0] 86))
 clear T1 E1 E01 kc HT
 go_wp2
 go_ret
 exact⟨_,rfl,HO.out,EE.out⟩
theorem Zq4 (g:Nat)(r:Rq)(v:Value)(A:Nat→Prop)(w:World)(h:Blk w g 119 (rqA r v)):Calls Tryz.prog 121 #[.pointer (some ⟨g,0,none⟩)] w (Zgi A [⟨0,if r.on=true then 1 else 0,[]⟩] w):=by
 have kc:=(rqC h).k9
 obtain⟨z,hz⟩:∃z:Int,(if r.on=true then 1 else 0)=z:=⟨_,rfl⟩
 have HT:=zh (fun w'=>Zgg r.on A w')
 rw[hz] at HT⊢
 clear h hz
 go_enter Tryz.func121,Tryz.ntmps121
 go_wp2_with fail
 refine(HT.out _).mono ?_
 rintro e w1 ⟨vt,rfl,T1,E1⟩
 obtain⟨At,ct,rfl,-,-⟩:=T1.shape
 have E01:Ext w w1:=zX
 have HO:=zh (Za6 (B:=fun k=>A k∨w.heap.size≤k) (base:=w.heap.size) (m:=1) (fdE (k:=0) (n:=z) T1) (fun k _ hk=>by first|exact hk|simpa using hk) E01.size rfl (by omega))
 have EE:=zh (E01.alloc (.cells #[.int .i64 0,.int .u32 z,.slice At 0 ct,.slice none 0 0] 86))
 clear T1 E1 E01 kc HT
 go_wp2
 go_ret
 exact⟨_,rfl,HO.out,EE.out⟩
theorem ZmS (g:Nat)(r:Rq)(v:Value)(A:Nat→Prop)(w:World)(h:Blk w g 119 (rqA r v)):Calls Tryz.prog 123 #[.pointer (some ⟨g,0,none⟩)] w (Zgi A [⟨0,r.co,[]⟩] w):=by
 have kc:=(rqC h).k10
 have HO:=zh (Za6 (A:=fun _=>False) (B:=fun k=>A k∨w.heap.size≤k) (base:=w.heap.size) (m:=1) (w:=w) (fdE (k:=0) (n:=r.co) (RdS.nil _ _ _)) (fun k _ hk=>hk.elim) (Nat.le_refl _) rfl (by omega))
 have EE:=zh ((Ext.refl w).alloc (.cells #[.int .i64 0,.int .u32 r.co,.slice none 0 0,.slice none 0 0] 86))
 clear h
 go_enter Tryz.func123,Tryz.ntmps123
 go_wp2
 go_ret
 exact⟨_,rfl,HO.out,EE.out⟩
theorem Zie (g:Nat)(r:Rq)(v:Value)(w:World)(h:Blk w g 119 (rqA r v)):Calls Tryz.prog 119 #[.pointer (some ⟨g,0,none⟩)] w
  fun e w'=>∃v,e= .returned v∧OwnS FdR 86 w.heap.size (fun _=>False) w' v [⟨0,r.c1,[]⟩,⟨0,r.c2,[]⟩,⟨0,r.c3,[]⟩,⟨0,r.c4,[]⟩]∧Ext w w':=by
 have kc:=rqC h
 obtain⟨k4,k5,k6,k7⟩:_∧_∧_∧_:=⟨kc.k4,kc.k5,kc.k6,kc.k7⟩
 have HO:=zh (fun w' (E:Ext w w')=>Za6 (A:=fun _=>False) (B:=fun _=>False) (base:=w.heap.size) (m:=4) (w:=w') ((((fdE (k:=0) (n:=r.c1) (RdS.nil _ _ _)).append (fdE (k:=0) (n:=r.c2) (RdS.nil _ _ _))).append (fdE (k:=0) (n:=r.c3) (RdS.nil _ _ _))).append (fdE (k:=0) (n:=r.c4) (RdS.nil _ _ _))) (fun k _ hk=>hk.elim) E.size rfl (by omega))
 clear h kc
 go_enter Tryz.func119,Tryz.ntmps119
 go_upto_region 1 with fail
 refine zg (fun w'=>Ext w w') (Ext.drew (Ext.refl _)) fun hHeld=>?_
 refine zr 0 ?_
 refine zr 1 ?_
 refine zr 2 ?_
 refine zr 3 ?_
 refine zr 4 ?_
 refine zv 5 k4 ?_
 (refine zU 6 (v:=.agg #[.int .i64 0,.int .u32 r.c1,.slice none 0 0,.slice none 0 0]) rfl (Zae (by rfl) 86 _ rfl (by simp[go_sem];exact(by kernel_rfl))) ?_)
 refine zr 7 ?_
 refine zr 8 ?_
 refine zr 9 ?_
 refine zr 10 ?_
 refine zr 11 ?_
 refine zv 12 k5 ?_
 (refine zU 13 (v:=.agg #[.int .i64 0,.int .u32 r.c2,.slice none 0 0,.slice none 0 0]) rfl (Zae (by rfl) 86 _ rfl (by simp[go_sem];exact(by kernel_rfl))) ?_)
 refine zr 14 ?_
 refine zr 15 ?_
 refine zr 16 ?_
 refine zr 17 ?_
 refine zr 18 ?_
 refine zv 19 k6 ?_
 (refine zU 20 (v:=.agg #[.int .i64 0,.int .u32 r.c3,.slice none 0 0,.slice none 0 0]) rfl (Zae (by rfl) 86 _ rfl (by simp[go_sem];exact(by kernel_rfl))) ?_)
 refine zr 21 ?_
 refine zr 22 ?_
 refine zr 23 ?_
 refine zr 24 ?_
 refine zr 25 ?_
 refine zv 26 k7 ?_
 (refine zU 27 (v:=.agg #[.int .i64 0,.int .u32 r.c4,.slice none 0 0,.slice none 0 0]) rfl (Zae (by rfl) 86 _ rfl (by simp[go_sem];exact(by kernel_rfl))) ?_)
 obtain⟨D,hD⟩:=zn (w.drew)
 have ED:Ext w D:=by rw[hD];exact(Ext.refl _).drew
 rw[←hD] at hHeld⊢
 clear hD
 have HOD:=zh (HO.out D ED)
 (refine za 28 (ED.alloc _) fun hHeld=>?_)
 refine zr 29 ?_
 refine zd ?_
 go_wp2
 go_ret
 exact⟨_,rfl,HOD.out,hHeld⟩
theorem Zpu (g:Nat)(r:Rq)(v:Value)(A:Nat→Prop)(w:World)(h:Blk w g 119 (rqA r v))(hs:r.tx.size≤1000000)(hs2:r.vl.size≤1000000):Calls Tryz.prog 109 #[.pointer (some ⟨g,0,none⟩)] w (Zgi A [⟨0,0,bsL r.tx⟩,⟨0,0,bsL r.vl⟩] w):=by
 have k1:=(rqC h).k1
 have k2:=(rqC h).k2
 have HT:=zh (fun w'=>Zbm r.tx (fun _=>False) w' hs)
 have HV:=zh (fun w'=>Zbm r.vl (fun _=>False) w' hs2)
 clear h hs hs2
 go_enter Tryz.func109,Tryz.ntmps109
 go_upto_region 1 with fail
 refine zg (fun w'=>Ext w w') (Ext.drew (Ext.refl _)) fun hHeld=>?_
 obtain⟨D,hD⟩:=zn (w.drew)
 have ED:Ext w D:=by rw[hD];exact(Ext.refl _).drew
 rw[←hD] at hHeld⊢
 clear hD
 refine zr 0 ?_
 refine zr 1 ?_
 refine zr 2 ?_
 refine zr 3 ?_
 refine zv 4 k1 ?_
 refine zr 6 ?_
 refine zr 7 ?_
 refine zr 8 ?_
 refine zr 9 ?_
 refine zv 10 k2 ?_
 (refine zc 5 (HT.out _) ?_;rintro e w1 ⟨vt,rfl,T1,E1⟩ K hK;refine zo hK (ED.trans E1) fun hHeld=>?_;clear hK K)
 obtain⟨At,ct,rfl,-,-⟩:=T1.shape
 have E01:Ext w w1:=ED.trans E1
 have T1:=zh T1
 (refine zc 11 (HV.out _) ?_;rintro e w2 ⟨vu,rfl,T2,E2⟩ K hK;refine zo hK (E01.trans E2) fun hHeld=>?_;clear hK K)
 obtain⟨Au,cu,rfl,-,-⟩:=T2.shape
 have E02:Ext w w2:=E01.trans E2
 have hz1:=ED.size
 have hz2:=E01.size
 have HO:=zh (Za6 (B:=fun k=>A k∨w.heap.size≤k) (base:=w.heap.size) (m:=2) ((fdE (k:=0) (n:=0) ((T1.out.ext E2).mono (B:=fun k=>w.heap.size≤k) (fun k _ hk=>by rcases hk with hk|hk;exact hk.elim;omega))).append (fdE (k:=0) (n:=0) (T2.mono (B:=fun k=>w.heap.size≤k) (fun k _ hk=>by rcases hk with hk|hk;exact hk.elim;omega)))) (fun k _ hk=>.inr hk) E02.size rfl (by omega))
 clear T1 T2
 (refine za 12 (E02.alloc _) fun hHeld=>?_)
 refine zr 13 ?_
 refine zd ?_
 go_wp2
 go_ret
 exact⟨_,rfl,HO.out,hHeld⟩
theorem Zky (g:Nat)(r:Rq)(v:Value)(A:Nat→Prop)(w:World)(h:Blk w g 119 (rqA r v))(hs:r.tx.size≤1000000)(hs2:r.vl.size≤1000000)(hs3:r.la.size≤1000000):
  Calls Tryz.prog 125 #[.pointer (some ⟨g,0,none⟩)] w (Zgi A [⟨0,0,bsL r.tx⟩,⟨0,if r.on=true then 1 else 0,[]⟩,⟨0,0,bsL r.vl⟩,⟨0,0,bsL r.la⟩] w):=by
 have k1:=(rqC h).k1
 have k2:=(rqC h).k2
 have k3:=(rqC h).k3
 have k9:=(rqC h).k9
 obtain⟨z,hz⟩:∃z:Int,(if r.on=true then 1 else 0)=z:=⟨_,rfl⟩
 have HF:=zh (fun w'=>Zgg r.on (fun _=>False) w')
 rw[hz] at HF⊢
 have HT:=zh (fun w'=>Zbm r.tx (fun _=>False) w' hs)
 have HV:=zh (fun w'=>Zbm r.vl (fun _=>False) w' hs2)
 have HL:=zh (fun w'=>Zbm r.la (fun _=>False) w' hs3)
 clear h hs hs2 hs3 hz
 go_enter Tryz.func125,Tryz.ntmps125
 go_upto_region 1 with fail
 refine zg (fun w'=>Ext w w') (Ext.drew (Ext.refl _)) fun hHeld=>?_
 obtain⟨D,hD⟩:=zn (w.drew)
 have ED:Ext w D:=by rw[hD];exact(Ext.refl _).drew
 rw[←hD] at hHeld⊢
 clear hD
 refine zr 0 ?_
 refine zr 1 ?_
 refine zr 2 ?_
 refine zr 3 ?_
 refine zv 4 k1 ?_
 refine zr 6 ?_
 refine zr 7 ?_
 refine zr 8 ?_
 refine zr 9 ?_
 refine zv 10 k9 ?_
 refine zr 12 ?_
 refine zr 13 ?_
 refine zr 14 ?_
 refine zr 15 ?_
 refine zv 16 k2 ?_
 refine zr 18 ?_
 refine zr 19 ?_
 refine zr 20 ?_
 refine zr 21 ?_
 refine zv 22 k3 ?_
 (refine zc 5 (HT.out _) ?_;rintro e w1 ⟨vt,rfl,T1,E1⟩ K hK;refine zo hK (ED.trans E1) fun hHeld=>?_;clear hK K)
 obtain⟨At,ct,rfl,-,-⟩:=T1.shape
 have E01:Ext w w1:=ED.trans E1
 have T1:=zh T1
 (refine zc 11 (HF.out _) ?_;rintro e w2 ⟨vu,rfl,T2,E2⟩ K hK;refine zo hK (E01.trans E2) fun hHeld=>?_;clear hK K)
 obtain⟨Au,cu,rfl,-,-⟩:=T2.shape
 have E02:Ext w w2:=E01.trans E2
 have T2:=zh T2
 (refine zc 17 (HV.out _) ?_;rintro e w3 ⟨vx,rfl,T3,E3⟩ K hK;refine zo hK (E02.trans E3) fun hHeld=>?_;clear hK K)
 obtain⟨Ax,cx,rfl,-,-⟩:=T3.shape
 have E03:Ext w w3:=E02.trans E3
 have T3:=zh T3
 (refine zc 23 (HL.out _) ?_;rintro e w4 ⟨vy,rfl,T4,E4⟩ K hK;refine zo hK (E03.trans E4) fun hHeld=>?_;clear hK K)
 obtain⟨Ay,cy,rfl,-,-⟩:=T4.shape
 have E04:Ext w w4:=E03.trans E4
 have hz1:=ED.size
 have hz2:=E01.size
 have hz3:=E02.size
 have hz4:=E03.size
 have HO:=zh (Za6 (B:=fun k=>A k∨w.heap.size≤k) (base:=w.heap.size) (m:=4) ((((fdE (k:=0) (n:=0) ((T1.out.ext (E2.trans (E3.trans E4))).mono (B:=fun k=>w.heap.size≤k) (fun k _ hk=>by rcases hk with hk|hk;exact hk.elim;omega))).append (fdE (k:=0) (n:=z) ((T2.out.ext (E3.trans E4)).mono (B:=fun k=>w.heap.size≤k) (fun k _ hk=>by rcases hk with hk|hk;exact hk.elim;omega)))).append (fdE (k:=0) (n:=0) ((T3.out.ext E4).mono (B:=fun k=>w.heap.size≤k) (fun k _ hk=>by rcases hk with hk|hk;exact hk.elim;omega)))).append (fdE (k:=0) (n:=0) (T4.mono (B:=fun k=>w.heap.size≤k) (fun k _ hk=>by rcases hk with hk|hk;exact hk.elim;omega)))) (fun k _ hk=>.inr hk) E04.size rfl (by omega))
 clear T1 T2 T3 T4
 (refine za 24 (E04.alloc _) fun hHeld=>?_)
 refine zr 25 ?_
 refine zd ?_
 go_wp2
 go_ret
 exact⟨_,rfl,HO.out,hHeld⟩
theorem Zpv (g:Nat)(r:Rq)(v:Value)(A:Nat→Prop)(w:World)(h:Blk w g 119 (rqA r v))(hv:RdS Ub8 A w v r.mo)(hA:∀k,A k→k<w.heap.size)(hs:r.tx.size≤1000000):
  Calls Tryz.prog 106 #[.pointer (some ⟨g,0,none⟩)] w (Zgi A [⟨0,0,bsL r.tx⟩,⟨0,r.c1,[]⟩,⟨0,r.c2,[]⟩,⟨0,r.c3,[]⟩,⟨0,r.c4,[]⟩,⟨0,0,r.mo⟩] w):=by
 obtain⟨Am,cm,rfl,-,-⟩:=hv.shape
 have HB:=zh h
 obtain⟨L,hL⟩:=zm (r.mo.length)
 have k8:=(rqC h).k8
 rw[hL] at hv k8 HB
 have HM:=zh hv
 have HT:=zh (fun w' (E:Ext w w')=>ZdT g r _ A w' (HB.out.ext E) hs)
 have HS:=zh (fun w' (E:Ext w w')=>Zie g r _ w' (HB.out.ext E))
 clear h hv hs hL
 go_enter Tryz.func106,Tryz.ntmps106
 go_upto_region 1 with fail
 refine zg (fun w'=>Ext w w') (Ext.drew (Ext.refl _)) fun hHeld=>?_
 obtain⟨wc,hD⟩:=zn (w.drew)
 have EE:Ext w wc:=by rw[hD];exact(Ext.refl _).drew
 rw[←hD] at hHeld⊢
 clear hD
 refine zr 0 ?_
 refine zr 2 ?_
 refine zr 5 ?_
 refine zr 6 ?_
 refine zr 7 ?_
 refine zr 8 ?_
 refine zv 9 k8 ?_
 (refine zU 10 (v:=.agg #[.int .i64 0,.int .u32 0,.slice Am L cm,.slice none 0 0]) rfl (Zae (by rfl) 86 _ rfl (by simp[go_sem];exact(by kernel_rfl))) ?_)
 iterate 5
  all_goals (first|refine wpAnyH_ready (rs:=[1,11]) (by decide+kernel) (by simp) ?_|refine wpAnyH_ready (rs:=[3,11]) (by decide+kernel) (by simp) ?_|refine wpAnyH_ready (rs:=[4,11]) (by decide+kernel) (by simp) ?_|refine wpAnyH_ready (rs:=[12]) (by decide+kernel) (by simp) ?_|refine wpAnyH_ready (rs:=[1]) (by decide+kernel) (by simp) ?_|refine wpAnyH_ready (rs:=[3]) (by decide+kernel) (by simp) ?_|refine wpAnyH_ready (rs:=[4]) (by decide+kernel) (by simp) ?_|refine wpAnyH_ready (rs:=[11]) (by decide+kernel) (by simp) ?_)
  all_goals (repeat' (first|exact AllReadyH.nil|refine AllReadyH.cons rfl (fun K hK=>?_) ?_))
  all_goals first
   |(
    go_simp
    go_at_call 115
    refine(HT.out wc EE).mono ?_
    rintro e wc ⟨v1,rfl,o1,E1⟩
    (try dsimp only)
    refine zo hK (EE.trans E1) fun hHeld=>?_
    clear hK K
    obtain⟨A1,c1,rfl,-,-⟩:=o1.shape
    have O1:=zh ((o1.lower EE.size).mono (B:=fun k=>A k∨w.heap.size≤k) (fun k _ hk=>by have:=EE.size;rcases hk with hk|hk;exact .inl hk;exact .inr (by omega)))
    (try have hne:∀k,(Value.slice A1 1 c1).ownBlock=some k→¬nX=k:=fun k hk he=>by have:=(o1.row k hk).1;have:=HX.out.lt;omega)
    (try have HX:=zh (HX.out.ext E1))
    have EE:=EE.trans E1
    clear o1 E1
    )
   |(
    go_simp
    go_at_call 119
    refine(HS.out wc EE).mono ?_
    rintro e wc ⟨v3,rfl,o3,E1⟩
    (try dsimp only)
    refine zo hK (EE.trans E1) fun hHeld=>?_
    clear hK K
    obtain⟨A3,c3,rfl,-,-⟩:=o3.shape
    have O3:=zh o3
    have O1:=zh (O1.out.ext E1)
    (try have HX:=zh (HX.out.ext E1))
    have EE:=EE.trans E1
    clear o3 E1
    )
   |(
    refine ZaX (e:=FdR) (base:=w.heap.size) (B:=fun k=>A k∨w.heap.size≤k) (A:=fun _=>False) rfl (.tmp 4) (.tmp 6) rfl Tryz.underlying87 ZcN rfl O1.out rfl (O3.out.y.mono (fun k _ hk=>hk.1)) rfl (fun k _ hk=>hk.elim) (N:=5) rfl (by unfold maxLen;omega) (by omega) EE.size ?_
    intro A7 c7 wc o7 M7 L7
    have hrow:=O1.out.row
    have E7:Ext w wc:=Mod.toExt EE M7 (fun k hk he=>by have:=(hrow k he).1;omega)
    refine zo hK E7 fun hHeld=>?_
    clear hK K
    have O7:=zh o7
    (try have HX:=zh (HX.out.mod M7 (fun he=>hne _ he rfl)))
    have EE:=E7
    clear o7 O1 O3 M7 L7 E7 hrow
    )
   |(
    have HMD:=zh (HM.out.ext EE)
    refine ZaX (e:=FdR) (base:=w.heap.size) (B:=fun k=>A k∨w.heap.size≤k) (A:=A) rfl (.tmp 7) (.tmp 14) rfl Tryz.underlying87 ZcN rfl O7.out rfl (RdY.singleB (e:=FdR) (cs:=[.int .i64 0,.int .u32 0,.slice Am L cm,.slice none 0 0]) (d:=⟨0,0,r.mo⟩) ⟨_,rfl,HMD.out⟩ HX.out) rfl (fun k _ hk=>⟨.inl hk,fun he=>by have:=(O7.out.row k he).1;have:=hA k hk;omega⟩) (N:=6) rfl (by unfold maxLen;omega) (by omega) EE.size ?_
    intro A9 c9 wc o9 M9 L9
    have hrow:=O7.out.row
    have E9:Ext w wc:=Mod.toExt EE M9 (fun k hk he=>by have:=(hrow k he).1;omega)
    refine zo hK E9 fun hHeld=>?_
    clear hK K
    have O9:=zh o9
    clear o9 O7 M9 L9 E9 hrow HX HMD EE
    )
   |(
    go_simp
    have HX:=zh (Blk.new wc 86 #[.int .i64 0,.int .u32 0,.slice Am L cm,.slice none 0 0])
    have EX:Ext wc (wc.alloc (.cells #[.int .i64 0,.int .u32 0,.slice Am L cm,.slice none 0 0] 86)):=(Ext.refl _).alloc _
    refine zo hK (EE.trans EX) fun hHeld=>?_
    clear hK K
    (try have hne:∀k,(Value.slice A1 1 c1).ownBlock=some k→¬wc.heap.size=k:=fun k hk he=>by have:=(O1.out.row k hk).2;omega)
    (try have O1:=zh (O1.out.ext EX))
    (try have O3:=zh (O3.out.ext EX))
    (try have O7:=zh (O7.out.ext EX))
    have EE:=EE.trans EX
    clear EX
    generalize wc.heap.size=nX at*
    generalize wc.alloc (.cells #[.int .i64 0,.int .u32 0,.slice Am L cm,.slice none 0 0] 86)=wc at*
    )
 all_goals
  refine zr 13 ?_
  refine zd ?_
  go_wp2
  go_ret
  exact⟨_,rfl,O9.out,hHeld⟩
def PuP (g:Nat)(A:Nat→Prop)(r:Rq)(w:World)(e:Ending)(w':World):Prop:=
 e= .returned (.tuple #[])∧∃v,Blk w' g 119 (rqA r v)∧RdS Ub8 A w' v r.mo∧Mod (fun k=>k=g) w w'
theorem Zbu {A:Nat→Prop}{w:World}{Ad:Option Addr}{n c:Nat}{fs:List Fd}(h:RdS FdR A w (.slice Ad n c) fs)(hn:0<n):∃b off,Ad=some ⟨b,off,none⟩∧A b:=by
 obtain⟨b,off,At,ct,f,rfl,-⟩:=Zfh h.1 hn
 obtain⟨_,_,hv,_⟩:=h.1.shape
 simp only[Value.slice.injEq] at hv
 exact⟨b,off,rfl,h.2 (by omega) b rfl⟩
theorem Zbi {A:Nat→Prop}{w:World}{b off n c j:Nat}{fs:List Fd}{f:Fd}(h:RdS FdR A w (.slice (some ⟨b,off,none⟩) n c) fs)(hf:fs[j]?=some f):
  j<n∧∃At ct,w.cell? ⟨b,off+j*4+1,none⟩=some (.int .u32 f.n)∧w.cell? ⟨b,off+j*4+2,none⟩=some (.slice At f.t.length ct)∧Hid (RdS Ub8 A w (.slice At f.t.length ct) f.t):=by
 obtain⟨_,_,hv,_⟩:=h.1.shape
 simp only[Value.slice.injEq] at hv
 have hj:j<n:=by have:=(List.getElem?_eq_some_iff.1 hf).1;omega
 obtain⟨b',off',At,ct,f',he,c0,c1,c2,c3,hd,ht⟩:=Zfh h.1 hj
 simp only[Option.some.injEq,Addr.mk.injEq,and_true] at he
 obtain⟨rfl,rfl⟩:=he
 have hff:f'=f:=by
  have h9:=hd.out
  rw[hf] at h9
  simpa using h9.symm
 subst hff
 exact⟨hj,At,ct,c1,c2,ht⟩
theorem ZmT (g:Nat)(r:Rq)(v vl:Value)(A:Nat→Prop)(w:World)(h:Blk w g 119 (rqA r v))(hv:RdS Ub8 A w v r.mo):Calls Tryz.prog 113 #[.pointer (some ⟨g,0,none⟩),vl] w (PuP g A r w):=by
 go_enter Tryz.func113,Tryz.ntmps113
 go_wp2
 go_end0
 exact⟨rfl,v,h,hv,Mod.refl _ _⟩
theorem ZdU (g:Nat)(r:Rq)(v:Value)(Ad:Option Addr)(n c:Nat)(fs:List Fd)(f:Fd)(A:Nat→Prop)(w:World)(h:Blk w g 119 (rqA r v))(hv:RdS Ub8 A w v r.mo)(hl:RdS FdR A w (.slice Ad n c) fs)(hf:fs[0]?=some f)(hn:0<n)(hA:∀k,A k→k≠g∧k<w.heap.size):
  Calls Tryz.prog 116 #[.pointer (some ⟨g,0,none⟩),.slice Ad n c] w (PuP g A {r with tx:=strOfNums f.t} w):=by
 obtain⟨b,off,rfl,-⟩:=Zbu hl hn
 obtain⟨-,At,ct,k1,k2,ht⟩:=Zbi hl hf
 simp only[Nat.zero_mul,Nat.add_zero] at k1 k2
 have hcv:(convert 43 9 (.slice At f.t.length ct)).run Tryz.prog w=_:=RI.str Tryz.underlying43 Tryz.underlying5 Tryz.underlying9 (RdS.ri ht.out)
 obtain⟨Av,cv,rfl,-,-⟩:=hv.shape
 have kg:=(rqC h).k1
 have fg:=h.frozen 1
 have HB:=zh h
 have HV:=zh hv
 have hn0:(0:Int)<(n:Int):=by omega
 clear h hv hl ht
 go_enter Tryz.func116,Tryz.ntmps116
 go_wp2
 go_end0
 have M1:Mod (fun k=>k=g) w (w.setCell ⟨g,1,none⟩ (.string (strOfNums f.t))):=(Mod.refl _ _).set1 _
 exact⟨rfl,_,by simpa using HB.out.set_ 1 (.string (strOfNums f.t)),HV.out.mod M1 (fun k _ hk he=>(hA k hk).1 he),M1⟩
theorem Zq5 (g:Nat)(r:Rq)(v:Value)(Ad:Option Addr)(n c:Nat)(fs:List Fd)(f:Fd)(A:Nat→Prop)(w:World)(h:Blk w g 119 (rqA r v))(hv:RdS Ub8 A w v r.mo)(hl:RdS FdR A w (.slice Ad n c) fs)(hf:fs[0]?=some f)(hn:0<n)(hA:∀k,A k→k≠g∧k<w.heap.size):
  Calls Tryz.prog 122 #[.pointer (some ⟨g,0,none⟩),.slice Ad n c] w (PuP g A {r with on:=(f.n==1)} w):=by
 obtain⟨b,off,rfl,-⟩:=Zbu hl hn
 obtain⟨-,At,ct,k1,k2,ht⟩:=Zbi hl hf
 simp only[Nat.zero_mul,Nat.add_zero] at k1 k2
 obtain⟨Av,cv,rfl,-,-⟩:=hv.shape
 have kg:=(rqC h).k9
 have fg:=h.frozen 9
 have HB:=zh h
 have HV:=zh hv
 have hn0:(0:Int)<(n:Int):=by omega
 clear h hv hl ht
 go_enter Tryz.func122,Tryz.ntmps122
 go_wp2
 go_end0
 have M1:Mod (fun k=>k=g) w (w.setCell ⟨g,9,none⟩ (.bool (f.n==1))):=(Mod.refl _ _).set1 _
 exact⟨rfl,_,by simpa using HB.out.set_ 9 (.bool (f.n==1)),HV.out.mod M1 (fun k _ hk he=>(hA k hk).1 he),M1⟩
theorem ZmU (g:Nat)(r:Rq)(v:Value)(Ad:Option Addr)(n c:Nat)(fs:List Fd)(f:Fd)(A:Nat→Prop)(w:World)(h:Blk w g 119 (rqA r v))(hv:RdS Ub8 A w v r.mo)(hl:RdS FdR A w (.slice Ad n c) fs)(hf:fs[0]?=some f)(hn:0<n)(hA:∀k,A k→k≠g∧k<w.heap.size):
  Calls Tryz.prog 124 #[.pointer (some ⟨g,0,none⟩),.slice Ad n c] w (PuP g A {r with co:=f.n} w):=by
 obtain⟨b,off,rfl,-⟩:=Zbu hl hn
 obtain⟨-,At,ct,k1,k2,ht⟩:=Zbi hl hf
 simp only[Nat.zero_mul,Nat.add_zero] at k1 k2
 obtain⟨Av,cv,rfl,-,-⟩:=hv.shape
 have kg:=(rqC h).k10
 have fg:=h.frozen 10
 have HB:=zh h
 have HV:=zh hv
 have hn0:(0:Int)<(n:Int):=by omega
 clear h hv hl ht
 go_enter Tryz.func124,Tryz.ntmps124
 go_wp2
 go_end0
 have M1:Mod (fun k=>k=g) w (w.setCell ⟨g,10,none⟩ (.int .u32 f.n)):=(Mod.refl _ _).set1 _
 exact⟨rfl,_,by simpa using HB.out.set_ 10 (.int .u32 f.n),HV.out.mod M1 (fun k _ hk he=>(hA k hk).1 he),M1⟩
theorem Zpw (g:Nat)(r:Rq)(v:Value)(Ad:Option Addr)(n c:Nat)(fs:List Fd)(f f2:Fd)(A:Nat→Prop)(w:World)(h:Blk w g 119 (rqA r v))(hv:RdS Ub8 A w v r.mo)(hl:RdS FdR A w (.slice Ad n c) fs)(hf:fs[0]?=some f)(hf2:fs[1]?=some f2)(hn:0<n)(hA:∀k,A k→k≠g∧k<w.heap.size):
  Calls Tryz.prog 110 #[.pointer (some ⟨g,0,none⟩),.slice Ad n c] w (PuP g A {r with tx:=strOfNums f.t,vl:=strOfNums f2.t} w):=by
 obtain⟨b,off,rfl,hb⟩:=Zbu hl hn
 obtain⟨-,At,ct,k1,k2,ht⟩:=Zbi hl hf
 obtain⟨hn1,Au,cu,m1,m2,hu⟩:=Zbi hl hf2
 simp only[Nat.zero_mul,Nat.add_zero,Nat.one_mul] at k1 k2 m1 m2
 obtain⟨Av,cv,rfl,-,-⟩:=hv.shape
 have HB:=zh h
 have HV:=zh hv
 have hn0:(0:Int)<(n:Int):=by omega
 have hi1:(1:Int)<(n:Int):=by omega
 have hi2:1<n:=by omega
 have hbg:¬b=g:=(hA b hb).1
 have hbw:b<w.heap.size:=(hA b hb).2
 clear h hv hl
 go_enter Tryz.func110,Tryz.ntmps110
 refine zg (fun w'=>Mod (fun k=>k=g) w w') (Mod.of_ext (Ext.drew (Ext.refl _))) fun hHeld=>?_
 obtain⟨D,hD⟩:=zn (w.drew)
 have ED:Ext w D:=by rw[hD];exact(Ext.refl _).drew
 rw[←hD] at hHeld⊢
 clear hD
 refine zr 0 ?_
 refine zr 1 ?_
 refine zr 2 ?_
 refine zr 3 ?_
 refine zr 4 ?_
 (refine zu 5 (fun _ h=>(h.cell b (off+2) hbw hbg).trans k2) ?_)
 (refine zT (i:=6) (v:=?_) rfl (Or.inl ⟨by rfl,?_⟩) ?_;rotate_left;(focus(intro w' hSw;have hcv:=RI.str (P:=Tryz.prog) Tryz.underlying43 Tryz.underlying5 Tryz.underlying9 (RdS.ri (ht.out.mod hSw (fun k _ hk he=>(hA k hk).1 he)));go_simp;try with_reducible rfl));(try simp only[zP]))
 refine zr 7 ?_
 refine zr 8 ?_
 refine zr 9 ?_
 (refine zu 10 (fun _ h=>(h.cell b (off+4+2) hbw hbg).trans m2) ?_)
 (refine zT (i:=11) (v:=?_) rfl (Or.inl ⟨by rfl,?_⟩) ?_;rotate_left;(focus(intro w' hSw;have hcv:=RI.str (P:=Tryz.prog) Tryz.underlying43 Tryz.underlying5 Tryz.underlying9 (RdS.ri (hu.out.mod hSw (fun k _ hk he=>(hA k hk).1 he)));go_simp;try with_reducible rfl));(try simp only[zP]))
 refine zr 12 ?_
 refine zr 13 ?_
 refine zr 14 ?_
 have BD:=HB.out.ext ED
 have g1:=BD.cell 1
 have f1:=BD.frozen 1
 have g2:=BD.cell 2
 have f2':=BD.frozen 2
 simp only[List.getElem?_toArray,List.getElem?_cons_succ,List.getElem?_cons_zero] at g1 g2
 (refine za 15 ((Mod.of_ext (S:=fun k=>k=g) ED).set1 (o:=1) (.string (strOfNums f.t))) fun hHeld=>?_)
 refine zr 16 ?_
 refine zr 17 ?_
 refine zr 18 ?_
 (refine za 19 (((Mod.of_ext (S:=fun k=>k=g) ED).set1 (o:=1) (.string (strOfNums f.t))).set1 (o:=2) (.string (strOfNums f2.t))) fun hHeld=>?_)
 refine zd ?_
 go_end0
 exact⟨rfl,_,by simpa using(BD.set_ 1 (.string (strOfNums f.t))).set_ 2 (.string (strOfNums f2.t)),HV.out.mod hHeld (fun k _ hk he=>(hA k hk).1 he),hHeld⟩
theorem Zif (g:Nat)(r:Rq)(v:Value)(Ad:Option Addr)(n c:Nat)(fs:List Fd)(f1 f2 f3 f4:Fd)(A:Nat→Prop)(w:World)(h:Blk w g 119 (rqA r v))(hv:RdS Ub8 A w v r.mo)(hl:RdS FdR A w (.slice Ad n c) fs)(hf1:fs[0]?=some f1)(hf2:fs[1]?=some f2)(hf3:fs[2]?=some f3)(hf4:fs[3]?=some f4)(hA:∀k,A k→k≠g∧k<w.heap.size):
  Calls Tryz.prog 120 #[.pointer (some ⟨g,0,none⟩),.slice Ad n c] w (PuP g A {r with c1:=f1.n,c2:=f2.n,c3:=f3.n,c4:=f4.n} w):=by
 have hn:0<n:=by
  obtain⟨_,_,hv9,_⟩:=hl.1.shape
  simp only[Value.slice.injEq] at hv9
  have:=(List.getElem?_eq_some_iff.1 hf1).1
  omega
 obtain⟨b,off,rfl,hb⟩:=Zbu hl hn
 obtain⟨-,_,_,k1,-,-⟩:=Zbi hl hf1
 obtain⟨-,_,_,k2,-,-⟩:=Zbi hl hf2
 obtain⟨-,_,_,k3,-,-⟩:=Zbi hl hf3
 obtain⟨hn4,_,_,k4,-,-⟩:=Zbi hl hf4
 simp only[Nat.zero_mul,Nat.add_zero,Nat.one_mul,Nat.reduceMul] at k1 k2 k3 k4
 obtain⟨Av,cv,rfl,-,-⟩:=hv.shape
 have HB:=zh h
 have HV:=zh hv
 have hn0:(0:Int)<(n:Int):=by omega
 have hi1:(1:Int)<(n:Int):=by omega
 have hi2:1<n:=by omega
 have hj1:(2:Int)<(n:Int):=by omega
 have hj2:2<n:=by omega
 have hl1:(3:Int)<(n:Int):=by omega
 have hbg:¬b=g:=(hA b hb).1
 have hbw:b<w.heap.size:=(hA b hb).2
 clear h hv hl
 go_enter Tryz.func120,Tryz.ntmps120
 refine zg (fun w'=>Mod (fun k=>k=g) w w') (Mod.of_ext (Ext.drew (Ext.refl _))) fun hHeld=>?_
 obtain⟨D,hD⟩:=zn (w.drew)
 have ED:Ext w D:=by rw[hD];exact(Ext.refl _).drew
 rw[←hD] at hHeld⊢
 clear hD
 refine zr 0 ?_
 refine zr 1 ?_
 refine zr 2 ?_
 refine zr 3 ?_
 (refine zu 4 (fun _ h=>(h.cell b (off+1) hbw hbg).trans k1) ?_)
 refine zr 5 ?_
 refine zr 6 ?_
 refine zr 7 ?_
 (refine zu 8 (fun _ h=>(h.cell b (off+4+1) hbw hbg).trans k2) ?_)
 refine zr 9 ?_
 refine zr 10 ?_
 refine zr 11 ?_
 (refine zu 12 (fun _ h=>(h.cell b (off+8+1) hbw hbg).trans k3) ?_)
 refine zr 13 ?_
 refine zr 14 ?_
 refine zr 15 ?_
 (refine zu 16 (fun _ h=>(h.cell b (off+12+1) hbw hbg).trans k4) ?_)
 (refine zU 17 (v:=.agg #[.int .u32 f1.n,.int .u32 f2.n,.int .u32 f3.n,.int .u32 f4.n]) rfl (Zae (by rfl) 35 _ rfl (by simp[go_sem];exact(by kernel_rfl))) ?_)
 refine zr 18 ?_
 refine zr 19 ?_
 refine zr 20 ?_
 have BD:=HB.out.ext ED
 have g4:=BD.cell 4
 have fz4:=BD.frozen 4
 have g5:=BD.cell 5
 have fz5:=BD.frozen 5
 have g6:=BD.cell 6
 have fz6:=BD.frozen 6
 have g7:=BD.cell 7
 have fz7:=BD.frozen 7
 simp only[List.getElem?_toArray,List.getElem?_cons_succ,List.getElem?_cons_zero] at g4 g5 g6 g7
 (refine za 21 (((((Mod.of_ext (S:=fun k=>k=g) ED).set1 (o:=4) (.int .u32 f1.n)).set1 (o:=5) (.int .u32 f2.n)).set1 (o:=6) (.int .u32 f3.n)).set1 (o:=7) (.int .u32 f4.n)) fun hHeld=>?_)
 refine zd ?_
 go_end0
 exact⟨rfl,_,by simpa using(((BD.set_ 4 (.int .u32 f1.n)).set_ 5 (.int .u32 f2.n)).set_ 6 (.int .u32 f3.n)).set_ 7 (.int .u32 f4.n),HV.out.mod hHeld (fun k _ hk he=>(hA k hk).1 he),hHeld⟩
theorem Zkz (g:Nat)(r:Rq)(v:Value)(Ad:Option Addr)(n c:Nat)(fs:List Fd)(f1 f2 f3 f4:Fd)(A:Nat→Prop)(w:World)(h:Blk w g 119 (rqA r v))(hv:RdS Ub8 A w v r.mo)(hl:RdS FdR A w (.slice Ad n c) fs)(hf1:fs[0]?=some f1)(hf2:fs[1]?=some f2)(hf3:fs[2]?=some f3)(hf4:fs[3]?=some f4)(hA:∀k,A k→k≠g∧k<w.heap.size):
  Calls Tryz.prog 126 #[.pointer (some ⟨g,0,none⟩),.slice Ad n c] w (PuP g A {r with tx:=strOfNums f1.t,on:=(f2.n==1),vl:=strOfNums f3.t,la:=strOfNums f4.t} w):=by
 have hn:0<n:=by
  obtain⟨_,_,hv9,_⟩:=hl.1.shape
  simp only[Value.slice.injEq] at hv9
  have:=(List.getElem?_eq_some_iff.1 hf1).1
  omega
 obtain⟨b,off,rfl,hb⟩:=Zbu hl hn
 obtain⟨-,A1,c1,-,k1,h1⟩:=Zbi hl hf1
 obtain⟨-,_,_,k2,-,-⟩:=Zbi hl hf2
 obtain⟨-,A3,c3,-,k3,h3⟩:=Zbi hl hf3
 obtain⟨hn4,A4,c4,-,k4,h4⟩:=Zbi hl hf4
 simp only[Nat.zero_mul,Nat.add_zero,Nat.one_mul,Nat.reduceMul] at k1 k2 k3 k4
 obtain⟨Av,cv,rfl,-,-⟩:=hv.shape
 have HB:=zh h
 have HV:=zh hv
 have hn0:(0:Int)<(n:Int):=by omega
 have hi1:(1:Int)<(n:Int):=by omega
 have hi2:1<n:=by omega
 have hj1:(2:Int)<(n:Int):=by omega
 have hj2:2<n:=by omega
 have hl1:(3:Int)<(n:Int):=by omega
 have hbg:¬b=g:=(hA b hb).1
 have hbw:b<w.heap.size:=(hA b hb).2
 clear h hv hl
 go_enter Tryz.func126,Tryz.ntmps126
 refine zg (fun w'=>Mod (fun k=>k=g) w w') (Mod.of_ext (Ext.drew (Ext.refl _))) fun hHeld=>?_
 obtain⟨D,hD⟩:=zn (w.drew)
 have ED:Ext w D:=by rw[hD];exact(Ext.refl _).drew
 rw[←hD] at hHeld⊢
 clear hD
 refine zr 0 ?_
 refine zr 1 ?_
 refine zr 2 ?_
 refine zr 3 ?_
 refine zr 4 ?_
 refine zr 5 ?_
 refine zr 6 ?_
 (refine zu 7 (fun _ h=>(h.cell b (off+2) hbw hbg).trans k1) ?_)
 (refine zT (i:=8) (v:=?_) rfl (Or.inl ⟨by rfl,?_⟩) ?_;rotate_left;(focus(intro w' hSw;have hcv:=RI.str (P:=Tryz.prog) Tryz.underlying43 Tryz.underlying5 Tryz.underlying9 (RdS.ri (h1.out.mod hSw (fun k _ hk he=>(hA k hk).1 he)));go_simp;try with_reducible rfl));(try simp only[zP]))
 refine zr 9 ?_
 refine zr 10 ?_
 refine zr 11 ?_
 (refine zu 12 (fun _ h=>(h.cell b (off+4+1) hbw hbg).trans k2) ?_)
 refine zr 13 ?_
 refine zr 14 ?_
 refine zr 15 ?_
 refine zr 16 ?_
 (refine zu 17 (fun _ h=>(h.cell b (off+8+2) hbw hbg).trans k3) ?_)
 (refine zT (i:=18) (v:=?_) rfl (Or.inl ⟨by rfl,?_⟩) ?_;rotate_left;(focus(intro w' hSw;have hcv:=RI.str (P:=Tryz.prog) Tryz.underlying43 Tryz.underlying5 Tryz.underlying9 (RdS.ri (h3.out.mod hSw (fun k _ hk he=>(hA k hk).1 he)));go_simp;try with_reducible rfl));(try simp only[zP]))
 refine zr 19 ?_
 refine zr 20 ?_
 refine zr 21 ?_
 (refine zu 22 (fun _ h=>(h.cell b (off+12+2) hbw hbg).trans k4) ?_)
 (refine zT (i:=23) (v:=?_) rfl (Or.inl ⟨by rfl,?_⟩) ?_;rotate_left;(focus(intro w' hSw;have hcv:=RI.str (P:=Tryz.prog) Tryz.underlying43 Tryz.underlying5 Tryz.underlying9 (RdS.ri (h4.out.mod hSw (fun k _ hk he=>(hA k hk).1 he)));go_simp;try with_reducible rfl));(try simp only[zP]))
 have BD:=HB.out.ext ED
 have g1:=BD.cell 1
 have fz1:=BD.frozen 1
 have g9:=BD.cell 9
 have fz9:=BD.frozen 9
 have g2:=BD.cell 2
 have fz2:=BD.frozen 2
 have g3:=BD.cell 3
 have fz3:=BD.frozen 3
 simp only[List.getElem?_toArray,List.getElem?_cons_succ,List.getElem?_cons_zero] at g1 g9 g2 g3
 refine zr 24 ?_
 refine zr 25 ?_
 refine zr 26 ?_
 (refine za 27 ((Mod.of_ext (S:=fun k=>k=g) ED).set1 (o:=1) (.string (strOfNums f1.t))) fun hHeld=>?_)
 refine zr 28 ?_
 refine zr 29 ?_
 refine zr 30 ?_
 (refine za 31 (((Mod.of_ext (S:=fun k=>k=g) ED).set1 (o:=1) (.string (strOfNums f1.t))).set1 (o:=9) (.bool (f2.n==1))) fun hHeld=>?_)
 refine zr 32 ?_
 refine zr 33 ?_
 refine zr 34 ?_
 (refine za 35 ((((Mod.of_ext (S:=fun k=>k=g) ED).set1 (o:=1) (.string (strOfNums f1.t))).set1 (o:=9) (.bool (f2.n==1))).set1 (o:=2) (.string (strOfNums f3.t))) fun hHeld=>?_)
 refine zr 36 ?_
 refine zr 37 ?_
 refine zr 38 ?_
 (refine za 39 (((((Mod.of_ext (S:=fun k=>k=g) ED).set1 (o:=1) (.string (strOfNums f1.t))).set1 (o:=9) (.bool (f2.n==1))).set1 (o:=2) (.string (strOfNums f3.t))).set1 (o:=3) (.string (strOfNums f4.t))) fun hHeld=>?_)
 refine zd ?_
 go_end0
 exact⟨rfl,_,by simpa using((((BD.set_ 1 (.string (strOfNums f1.t))).set_ 9 (.bool (f2.n==1))).set_ 2 (.string (strOfNums f3.t))).set_ 3 (.string (strOfNums f4.t))),HV.out.mod hHeld (fun k _ hk he=>(hA k hk).1 he),hHeld⟩
theorem Zpx (g:Nat)(r:Rq)(v:Value)(Ad:Option Addr)(n c:Nat)(fs:List Fd)(f0 f1 f2 f3 f4 f5:Fd)(A:Nat→Prop)(w:World)(h:Blk w g 119 (rqA r v))(hv:RdS Ub8 A w v r.mo)(hl:RdS FdR A w (.slice Ad n c) fs)(hfs:fs=[f0,f1,f2,f3,f4,f5])(hA:∀k,A k→k≠g∧k<w.heap.size):
  Calls Tryz.prog 107 #[.pointer (some ⟨g,0,none⟩),.slice Ad n c] w (PuP g A {r with tx:=strOfNums f0.t,c1:=f1.n,c2:=f2.n,c3:=f3.n,c4:=f4.n,mo:=f5.t} w):=by
 have hn:n=6:=by
  obtain⟨_,_,hv9,_⟩:=hl.1.shape
  simp only[Value.slice.injEq] at hv9
  rw[hv9.2.1,hfs]
  rfl
 subst hn
 have hcc:6≤c:=by
  obtain⟨_,_,hv9,h9,_⟩:=hl.1.shape
  simp only[Value.slice.injEq] at hv9
  omega
 obtain⟨b,off,rfl,hb⟩:=Zbu hl (by omega)
 have HB:=zh h
 have HV:=zh hv
 have HLL:=zh hl
 have HT:=zh (ZdU g r v (some ⟨b,off,none⟩) 6 c fs f0 A w h hv hl (by rw[hfs];rfl) (by omega) hA)
 have hc1:(1:Int)≤(c:Int):=by omega
 have HFS:=zh hfs
 clear h hv hl hfs
 go_enter Tryz.func107,Tryz.ntmps107
 go_wp2_with fail
 refine HT.out.mono ?_
 rintro e w1 ⟨rfl,v1,B1,V1,M1⟩
 have B1:=zh B1
 have V1:=zh V1
 have L1:=zh (HLL.out.mod M1 (fun k _ hk he=>(hA k hk).1 he))
 have hA1:∀k,A k→k≠g∧k<w1.heap.size:=fun k hk=>⟨(hA k hk).1,Nat.lt_of_lt_of_le (hA k hk).2 M1.size⟩
 have L2:=zh (show RdS FdR A w1 (.slice (some ⟨b,off+4,none⟩) 5 (c - 1)) [f1,f2,f3,f4,f5] from by
  have h9:=RdS.from_ L1.out (k:=1) (by omega)
  have e1:Option.map (fun x:Addr=>x.add (1*FdR.size)) (some ⟨b,off,none⟩)=some ⟨b,off+4,none⟩:=by simp[Addr.add_lit,FdR]
  rw[e1,if_neg (by omega),HFS.out] at h9
  exact h9)
 have HM1:=zh M1
 clear M1 HT
 go_wp2_with fail
 with_reducible refine(Zif g _ v1 (some ⟨b,off+4,none⟩) 5 (c - 1) [f1,f2,f3,f4,f5] f1 f2 f3 f4 A w1 B1.out V1.out L2.out rfl rfl rfl rfl hA1).mono ?_
 rintro e w2 ⟨rfl,v2,B2,V2,M2⟩
 have HM2:=zh (HM1.out.trans M2)
 have L3:=L1.out.mod M2 (fun k _ hk he=>(hA k hk).1 he)
 obtain⟨-,A5,c5,-,k5,h5⟩:=Zbi (j:=5) (f:=f5) L3 (by rw[HFS.out];rfl)
 simp only[Nat.reduceMul] at k5
 obtain⟨Av,cv,rfl,-,-⟩:=V2.shape
 have kg:=(rqC B2).k8
 have fg:=B2.frozen 8
 have B2:=zh B2
 have V2:=zh V2
 clear M2 L3
 go_wp2
 go_end0
 have M3:Mod (fun k=>k=g) w2 (w2.setCell ⟨g,8,none⟩ (.slice A5 f5.t.length c5)):=(Mod.refl _ _).set1 _
 exact⟨rfl,_,by simpa using B2.out.set_ 8 (.slice A5 f5.t.length c5),h5.out.mod M3 (fun k _ hk he=>(hA k hk).1 he),HM2.out.trans M3⟩
def nmQ:Nat→ByteArray
 |1=>⟨#[112,116,121,45,114,101,113]⟩
 |2=>⟨#[101,110,118]⟩
 |3=>⟨#[115,104,101,108,108]⟩
 |4=>⟨#[101,120,101,99]⟩
 |5=>⟨#[115,117,98,115,121,115,116,101,109]⟩
 |6=>⟨#[119,105,110,100,111,119,45,99,104,97,110,103,101]⟩
 |7=>⟨#[120,111,110,45,120,111,102,102]⟩
 |8=>⟨#[115,105,103,110,97,108]⟩
 |9=>⟨#[101,120,105,116,45,115,116,97,116,117,115]⟩
 |10=>⟨#[101,120,105,116,45,115,105,103,110,97,108]⟩
 |_=>⟨#[]⟩
def kindsQ:Nat→List Int
 |1=>[4,3,3,3,3,4]
 |2=>[4,4]
 |4=>[4]
 |5=>[4]
 |6=>[3,3,3,3]
 |7=>[2]
 |8=>[4]
 |9=>[3]
 |10=>[4,2,4,4]
 |_=>[]
def gQ:Nat→Nat
 |1=>106
 |2=>109
 |3=>112
 |4=>115
 |5=>115
 |6=>119
 |7=>121
 |8=>115
 |9=>123
 |10=>125
 |_=>0
def pQ:Nat→Nat
 |1=>107
 |2=>110
 |3=>113
 |4=>116
 |5=>116
 |6=>120
 |7=>122
 |8=>116
 |9=>124
 |10=>126
 |_=>0
def aQ:Nat→Nat
 |1=>108
 |2=>111
 |3=>114
 |4=>117
 |5=>118
 |6=>114
 |7=>114
 |8=>118
 |9=>114
 |10=>127
 |_=>0
def kvQ (n:Nat):Nat→Value
 |1=>.slice (some ⟨n+1,0,none⟩) 6 6
 |2=>.slice (some ⟨n+1+1,0,none⟩) 2 2
 |4=>.slice (some ⟨n+1+1+1,0,none⟩) 1 1
 |5=>.slice (some ⟨n+1+1+1+1,0,none⟩) 1 1
 |6=>.slice (some ⟨n+1+1+1+1+1,0,none⟩) 4 4
 |7=>.slice (some ⟨n+1+1+1+1+1+1,0,none⟩) 1 1
 |8=>.slice (some ⟨n+1+1+1+1+1+1+1,0,none⟩) 1 1
 |9=>.slice (some ⟨n+1+1+1+1+1+1+1+1,0,none⟩) 1 1
 |10=>.slice (some ⟨n+1+1+1+1+1+1+1+1+1,0,none⟩) 4 4
 |_=>.slice none 0 0
def Zbv (n:Nat):Nat→List Value
 |0=>[.string ⟨#[]⟩,.slice none 0 0,.nilFunc,.nilFunc,.nilFunc]
 |1=>[.string ⟨#[112,116,121,45,114,101,113]⟩,.slice (some ⟨n+1,0,none⟩) 6 6,.func (.func 106) #[] #[],.func (.func 107) #[] #[],.func (.func 108) #[] #[]]
 |2=>[.string ⟨#[101,110,118]⟩,.slice (some ⟨n+1+1,0,none⟩) 2 2,.func (.func 109) #[] #[],.func (.func 110) #[] #[],.func (.func 111) #[] #[]]
 |3=>[.string ⟨#[115,104,101,108,108]⟩,.slice none 0 0,.func (.func 112) #[] #[],.func (.func 113) #[] #[],.func (.func 114) #[] #[]]
 |4=>[.string ⟨#[101,120,101,99]⟩,.slice (some ⟨n+1+1+1,0,none⟩) 1 1,.func (.func 115) #[] #[],.func (.func 116) #[] #[],.func (.func 117) #[] #[]]
 |5=>[.string ⟨#[115,117,98,115,121,115,116,101,109]⟩,.slice (some ⟨n+1+1+1+1,0,none⟩) 1 1,.func (.func 115) #[] #[],.func (.func 116) #[] #[],.func (.func 118) #[] #[]]
 |6=>[.string ⟨#[119,105,110,100,111,119,45,99,104,97,110,103,101]⟩,.slice (some ⟨n+1+1+1+1+1,0,none⟩) 4 4,.func (.func 119) #[] #[],.func (.func 120) #[] #[],.func (.func 114) #[] #[]]
 |7=>[.string ⟨#[120,111,110,45,120,111,102,102]⟩,.slice (some ⟨n+1+1+1+1+1+1,0,none⟩) 1 1,.func (.func 121) #[] #[],.func (.func 122) #[] #[],.func (.func 114) #[] #[]]
 |8=>[.string ⟨#[115,105,103,110,97,108]⟩,.slice (some ⟨n+1+1+1+1+1+1+1,0,none⟩) 1 1,.func (.func 115) #[] #[],.func (.func 116) #[] #[],.func (.func 118) #[] #[]]
 |9=>[.string ⟨#[101,120,105,116,45,115,116,97,116,117,115]⟩,.slice (some ⟨n+1+1+1+1+1+1+1+1,0,none⟩) 1 1,.func (.func 123) #[] #[],.func (.func 124) #[] #[],.func (.func 114) #[] #[]]
 |10=>[.string ⟨#[101,120,105,116,45,115,105,103,110,97,108]⟩,.slice (some ⟨n+1+1+1+1+1+1+1+1+1,0,none⟩) 4 4,.func (.func 125) #[] #[],.func (.func 126) #[] #[],.func (.func 127) #[] #[]]
 |_=>[]
def Zig (n:Nat):Array Value:=(Zbv n 0++Zbv n 1++Zbv n 2++Zbv n 3++Zbv n 4++Zbv n 5++Zbv n 6++Zbv n 7++Zbv n 8++Zbv n 9++Zbv n 10).toArray
def RulP (w:World)(e:Ending)(w':World):Prop:=e= .returned (.agg (Zig w.heap.size))∧Ext w w'∧∀i,i≤10→RI .i64 w' (kvQ w.heap.size i) (kindsQ i)
theorem Zjf {P:Program}{ops:Array Oper}{rest:List Oper}{o:Oper}{a:Act}{w:World}{Q:Exit→Act→World→Prop}(_:o.guard=none)(t:TypeId)(parts:Array (Nat×Operand))(_:o.op= .build t parts)(h:∀Z:Prop,Z=wpList P ops Q (o::rest) a w→Z):wpList P ops Q (o::rest) a w:=h _ rfl
theorem ZkA (w:World):Calls Tryz.prog 60 #[] w (RulP w):=by
 have hiR:=zi Tryz.prog 177 55
 obtain⟨W9,hW9⟩:=zn ((((((((((w.alloc (.cells #[.string ⟨#[]⟩,.slice none 0 0,.nilFunc,.nilFunc,.nilFunc,.string ⟨#[]⟩,.slice none 0 0,.nilFunc,.nilFunc,.nilFunc,.string ⟨#[]⟩,.slice none 0 0,.nilFunc,.nilFunc,.nilFunc,.string ⟨#[]⟩,.slice none 0 0,.nilFunc,.nilFunc,.nilFunc,.string ⟨#[]⟩,.slice none 0 0,.nilFunc,.nilFunc,.nilFunc,.string ⟨#[]⟩,.slice none 0 0,.nilFunc,.nilFunc,.nilFunc,.string ⟨#[]⟩,.slice none 0 0,.nilFunc,.nilFunc,.nilFunc,.string ⟨#[]⟩,.slice none 0 0,.nilFunc,.nilFunc,.nilFunc,.string ⟨#[]⟩,.slice none 0 0,.nilFunc,.nilFunc,.nilFunc,.string ⟨#[]⟩,.slice none 0 0,.nilFunc,.nilFunc,.nilFunc,.string ⟨#[]⟩,.slice none 0 0,.nilFunc,.nilFunc,.nilFunc] 177)).alloc (.cells #[.int .i64 4,.int .i64 3,.int .i64 3,.int .i64 3,.int .i64 3,.int .i64 4] 3)).alloc (.cells #[.int .i64 4,.int .i64 4] 3)).alloc (.cells #[.int .i64 4] 3)).alloc (.cells #[.int .i64 4] 3)).alloc (.cells #[.int .i64 3,.int .i64 3,.int .i64 3,.int .i64 3] 3)).alloc (.cells #[.int .i64 2] 3)).alloc (.cells #[.int .i64 4] 3)).alloc (.cells #[.int .i64 3] 3)).alloc (.cells #[.int .i64 4,.int .i64 2,.int .i64 4,.int .i64 4] 3))
 have E9:Ext w W9:=by rw[hW9];exact zX
 have B9:=zh (show Blk W9 w.heap.size 177 #[.string ⟨#[]⟩,.slice none 0 0,.nilFunc,.nilFunc,.nilFunc,.string ⟨#[]⟩,.slice none 0 0,.nilFunc,.nilFunc,.nilFunc,.string ⟨#[]⟩,.slice none 0 0,.nilFunc,.nilFunc,.nilFunc,.string ⟨#[]⟩,.slice none 0 0,.nilFunc,.nilFunc,.nilFunc,.string ⟨#[]⟩,.slice none 0 0,.nilFunc,.nilFunc,.nilFunc,.string ⟨#[]⟩,.slice none 0 0,.nilFunc,.nilFunc,.nilFunc,.string ⟨#[]⟩,.slice none 0 0,.nilFunc,.nilFunc,.nilFunc,.string ⟨#[]⟩,.slice none 0 0,.nilFunc,.nilFunc,.nilFunc,.string ⟨#[]⟩,.slice none 0 0,.nilFunc,.nilFunc,.nilFunc,.string ⟨#[]⟩,.slice none 0 0,.nilFunc,.nilFunc,.nilFunc,.string ⟨#[]⟩,.slice none 0 0,.nilFunc,.nilFunc,.nilFunc] by rw[hW9];exact(by repeat(first|((with_reducible refine Blk.at_ _ _ ?_);simp;done)|with_reducible refine Blk.drew ?_|with_reducible refine Blk.alloc ?_ _|refine Blk.ext ?_ (by assumption))))
 obtain⟨n,hn⟩:=zm (w.heap.size)
 have R1:=zh (show RI .i64 W9 (.slice (some ⟨w.heap.size+1,0,none⟩) 6 6) [4,3,3,3,3,4] from Zb8 (ks:=[4,3,3,3,3,4]) (show Blk W9 _ 3 #[.int .i64 4,.int .i64 3,.int .i64 3,.int .i64 3,.int .i64 3,.int .i64 4] by rw[hW9];exact(by repeat(first|((with_reducible refine Blk.at_ _ _ ?_);simp;done)|with_reducible refine Blk.drew ?_|with_reducible refine Blk.alloc ?_ _|refine Blk.ext ?_ (by assumption)))) (by simp))
 have R2:=zh (show RI .i64 W9 (.slice (some ⟨w.heap.size+1+1,0,none⟩) 2 2) [4,4] from Zb8 (ks:=[4,4]) (show Blk W9 _ 3 #[.int .i64 4,.int .i64 4] by rw[hW9];exact(by repeat(first|((with_reducible refine Blk.at_ _ _ ?_);simp;done)|with_reducible refine Blk.drew ?_|with_reducible refine Blk.alloc ?_ _|refine Blk.ext ?_ (by assumption)))) (by simp))
 have R4:=zh (show RI .i64 W9 (.slice (some ⟨w.heap.size+1+1+1,0,none⟩) 1 1) [4] from Zb8 (ks:=[4]) (show Blk W9 _ 3 #[.int .i64 4] by rw[hW9];exact(by repeat(first|((with_reducible refine Blk.at_ _ _ ?_);simp;done)|with_reducible refine Blk.drew ?_|with_reducible refine Blk.alloc ?_ _|refine Blk.ext ?_ (by assumption)))) (by simp))
 have R5:=zh (show RI .i64 W9 (.slice (some ⟨w.heap.size+1+1+1+1,0,none⟩) 1 1) [4] from Zb8 (ks:=[4]) (show Blk W9 _ 3 #[.int .i64 4] by rw[hW9];exact(by repeat(first|((with_reducible refine Blk.at_ _ _ ?_);simp;done)|with_reducible refine Blk.drew ?_|with_reducible refine Blk.alloc ?_ _|refine Blk.ext ?_ (by assumption)))) (by simp))
 have R6:=zh (show RI .i64 W9 (.slice (some ⟨w.heap.size+1+1+1+1+1,0,none⟩) 4 4) [3,3,3,3] from Zb8 (ks:=[3,3,3,3]) (show Blk W9 _ 3 #[.int .i64 3,.int .i64 3,.int .i64 3,.int .i64 3] by rw[hW9];exact(by repeat(first|((with_reducible refine Blk.at_ _ _ ?_);simp;done)|with_reducible refine Blk.drew ?_|with_reducible refine Blk.alloc ?_ _|refine Blk.ext ?_ (by assumption)))) (by simp))
 have R7:=zh (show RI .i64 W9 (.slice (some ⟨w.heap.size+1+1+1+1+1+1,0,none⟩) 1 1) [2] from Zb8 (ks:=[2]) (show Blk W9 _ 3 #[.int .i64 2] by rw[hW9];exact(by repeat(first|((with_reducible refine Blk.at_ _ _ ?_);simp;done)|with_reducible refine Blk.drew ?_|with_reducible refine Blk.alloc ?_ _|refine Blk.ext ?_ (by assumption)))) (by simp))
 have R8:=zh (show RI .i64 W9 (.slice (some ⟨w.heap.size+1+1+1+1+1+1+1,0,none⟩) 1 1) [4] from Zb8 (ks:=[4]) (show Blk W9 _ 3 #[.int .i64 4] by rw[hW9];exact(by repeat(first|((with_reducible refine Blk.at_ _ _ ?_);simp;done)|with_reducible refine Blk.drew ?_|with_reducible refine Blk.alloc ?_ _|refine Blk.ext ?_ (by assumption)))) (by simp))
 have R9:=zh (show RI .i64 W9 (.slice (some ⟨w.heap.size+1+1+1+1+1+1+1+1,0,none⟩) 1 1) [3] from Zb8 (ks:=[3]) (show Blk W9 _ 3 #[.int .i64 3] by rw[hW9];exact(by repeat(first|((with_reducible refine Blk.at_ _ _ ?_);simp;done)|with_reducible refine Blk.drew ?_|with_reducible refine Blk.alloc ?_ _|refine Blk.ext ?_ (by assumption)))) (by simp))
 have R10:=zh (show RI .i64 W9 (.slice (some ⟨w.heap.size+1+1+1+1+1+1+1+1+1,0,none⟩) 4 4) [4,2,4,4] from Zb8 (ks:=[4,2,4,4]) (show Blk W9 _ 3 #[.int .i64 4,.int .i64 2,.int .i64 4,.int .i64 4] by rw[hW9];exact(by repeat(first|((with_reducible refine Blk.at_ _ _ ?_);simp;done)|with_reducible refine Blk.drew ?_|with_reducible refine Blk.alloc ?_ _|refine Blk.ext ?_ (by assumption)))) (by simp))
 have HW9:=zh hW9
 clear hW9 hn
 go_enter Tryz.func60,Tryz.ntmps60
 have hb:Tryz.prog.built 177 [(1,.agg #[.string ⟨#[112,116,121,45,114,101,113]⟩,.slice (some ⟨w.heap.size+1,0,none⟩) 6 6,.func (.func 106) #[] #[],.func (.func 107) #[] #[],.func (.func 108) #[] #[]]),(2,.agg #[.string ⟨#[101,110,118]⟩,.slice (some ⟨w.heap.size+1+1,0,none⟩) 2 2,.func (.func 109) #[] #[],.func (.func 110) #[] #[],.func (.func 111) #[] #[]]),(3,.agg #[.string ⟨#[115,104,101,108,108]⟩,.slice none 0 0,.func (.func 112) #[] #[],.func (.func 113) #[] #[],.func (.func 114) #[] #[]]),(4,.agg #[.string ⟨#[101,120,101,99]⟩,.slice (some ⟨w.heap.size+1+1+1,0,none⟩) 1 1,.func (.func 115) #[] #[],.func (.func 116) #[] #[],.func (.func 117) #[] #[]]),(5,.agg #[.string ⟨#[115,117,98,115,121,115,116,101,109]⟩,.slice (some ⟨w.heap.size+1+1+1+1,0,none⟩) 1 1,.func (.func 115) #[] #[],.func (.func 116) #[] #[],.func (.func 118) #[] #[]]),(6,.agg #[.string ⟨#[119,105,110,100,111,119,45,99,104,97,110,103,101]⟩,.slice (some ⟨w.heap.size+1+1+1+1+1,0,none⟩) 4 4,.func (.func 119) #[] #[],.func (.func 120) #[] #[],.func (.func 114) #[] #[]]),(7,.agg #[.string ⟨#[120,111,110,45,120,111,102,102]⟩,.slice (some ⟨w.heap.size+1+1+1+1+1+1,0,none⟩) 1 1,.func (.func 121) #[] #[],.func (.func 122) #[] #[],.func (.func 114) #[] #[]]),(8,.agg #[.string ⟨#[115,105,103,110,97,108]⟩,.slice (some ⟨w.heap.size+1+1+1+1+1+1+1,0,none⟩) 1 1,.func (.func 115) #[] #[],.func (.func 116) #[] #[],.func (.func 118) #[] #[]]),(9,.agg #[.string ⟨#[101,120,105,116,45,115,116,97,116,117,115]⟩,.slice (some ⟨w.heap.size+1+1+1+1+1+1+1+1,0,none⟩) 1 1,.func (.func 123) #[] #[],.func (.func 124) #[] #[],.func (.func 114) #[] #[]]),(10,.agg #[.string ⟨#[101,120,105,116,45,115,105,103,110,97,108]⟩,.slice (some ⟨w.heap.size+1+1+1+1+1+1+1+1+1,0,none⟩) 4 4,.func (.func 125) #[] #[],.func (.func 126) #[] #[],.func (.func 127) #[] #[]])]=some #[.string ⟨#[]⟩,.slice none 0 0,.nilFunc,.nilFunc,.nilFunc,.string ⟨#[112,116,121,45,114,101,113]⟩,.slice (some ⟨w.heap.size+1,0,none⟩) 6 6,.func (.func 106) #[] #[],.func (.func 107) #[] #[],.func (.func 108) #[] #[],.string ⟨#[101,110,118]⟩,.slice (some ⟨w.heap.size+1+1,0,none⟩) 2 2,.func (.func 109) #[] #[],.func (.func 110) #[] #[],.func (.func 111) #[] #[],.string ⟨#[115,104,101,108,108]⟩,.slice none 0 0,.func (.func 112) #[] #[],.func (.func 113) #[] #[],.func (.func 114) #[] #[],.string ⟨#[101,120,101,99]⟩,.slice (some ⟨w.heap.size+1+1+1,0,none⟩) 1 1,.func (.func 115) #[] #[],.func (.func 116) #[] #[],.func (.func 117) #[] #[],.string ⟨#[115,117,98,115,121,115,116,101,109]⟩,.slice (some ⟨w.heap.size+1+1+1+1,0,none⟩) 1 1,.func (.func 115) #[] #[],.func (.func 116) #[] #[],.func (.func 118) #[] #[],.string ⟨#[119,105,110,100,111,119,45,99,104,97,110,103,101]⟩,.slice (some ⟨w.heap.size+1+1+1+1+1,0,none⟩) 4 4,.func (.func 119) #[] #[],.func (.func 120) #[] #[],.func (.func 114) #[] #[],.string ⟨#[120,111,110,45,120,111,102,102]⟩,.slice (some ⟨w.heap.size+1+1+1+1+1+1,0,none⟩) 1 1,.func (.func 121) #[] #[],.func (.func 122) #[] #[],.func (.func 114) #[] #[],.string ⟨#[115,105,103,110,97,108]⟩,.slice (some ⟨w.heap.size+1+1+1+1+1+1+1,0,none⟩) 1 1,.func (.func 115) #[] #[],.func (.func 116) #[] #[],.func (.func 118) #[] #[],.string ⟨#[101,120,105,116,45,115,116,97,116,117,115]⟩,.slice (some ⟨w.heap.size+1+1+1+1+1+1+1+1,0,none⟩) 1 1,.func (.func 123) #[] #[],.func (.func 124) #[] #[],.func (.func 114) #[] #[],.string ⟨#[101,120,105,116,45,115,105,103,110,97,108]⟩,.slice (some ⟨w.heap.size+1+1+1+1+1+1+1+1+1,0,none⟩) 4 4,.func (.func 125) #[] #[],.func (.func 126) #[] #[],.func (.func 127) #[] #[]]:=by kernel_rfl
 go_wp2_with(refine Zjf rfl 177 _ rfl ?_;intro Z hZ;have HZ:=zh hZ;clear hZ)
 rw[HZ.out];clear HZ Z
 refine wpList_build_eq rfl 177 _ rfl (L:=#[.string ⟨#[]⟩,.slice none 0 0,.nilFunc,.nilFunc,.nilFunc,.string ⟨#[112,116,121,45,114,101,113]⟩,.slice (some ⟨w.heap.size+1,0,none⟩) 6 6,.func (.func 106) #[] #[],.func (.func 107) #[] #[],.func (.func 108) #[] #[],.string ⟨#[101,110,118]⟩,.slice (some ⟨w.heap.size+1+1,0,none⟩) 2 2,.func (.func 109) #[] #[],.func (.func 110) #[] #[],.func (.func 111) #[] #[],.string ⟨#[115,104,101,108,108]⟩,.slice none 0 0,.func (.func 112) #[] #[],.func (.func 113) #[] #[],.func (.func 114) #[] #[],.string ⟨#[101,120,101,99]⟩,.slice (some ⟨w.heap.size+1+1+1,0,none⟩) 1 1,.func (.func 115) #[] #[],.func (.func 116) #[] #[],.func (.func 117) #[] #[],.string ⟨#[115,117,98,115,121,115,116,101,109]⟩,.slice (some ⟨w.heap.size+1+1+1+1,0,none⟩) 1 1,.func (.func 115) #[] #[],.func (.func 116) #[] #[],.func (.func 118) #[] #[],.string ⟨#[119,105,110,100,111,119,45,99,104,97,110,103,101]⟩,.slice (some ⟨w.heap.size+1+1+1+1+1,0,none⟩) 4 4,.func (.func 119) #[] #[],.func (.func 120) #[] #[],.func (.func 114) #[] #[],.string ⟨#[120,111,110,45,120,111,102,102]⟩,.slice (some ⟨w.heap.size+1+1+1+1+1+1,0,none⟩) 1 1,.func (.func 121) #[] #[],.func (.func 122) #[] #[],.func (.func 114) #[] #[],.string ⟨#[115,105,103,110,97,108]⟩,.slice (some ⟨w.heap.size+1+1+1+1+1+1+1,0,none⟩) 1 1,.func (.func 115) #[] #[],.func (.func 116) #[] #[],.func (.func 118) #[] #[],.string ⟨#[101,120,105,116,45,115,116,97,116,117,115]⟩,.slice (some ⟨w.heap.size+1+1+1+1+1+1+1+1,0,none⟩) 1 1,.func (.func 123) #[] #[],.func (.func 124) #[] #[],.func (.func 114) #[] #[],.string ⟨#[101,120,105,116,45,115,105,103,110,97,108]⟩,.slice (some ⟨w.heap.size+1+1+1+1+1+1+1+1+1,0,none⟩) 4 4,.func (.func 125) #[] #[],.func (.func 126) #[] #[],.func (.func 127) #[] #[]]) ?_ ?_
 ·simp[go_sem];exact hb
 refine wpList_store_M rfl 177 _ _ rfl w.heap.size (#[.string ⟨#[]⟩,.slice none 0 0,.nilFunc,.nilFunc,.nilFunc,.string ⟨#[112,116,121,45,114,101,113]⟩,.slice (some ⟨w.heap.size+1,0,none⟩) 6 6,.func (.func 106) #[] #[],.func (.func 107) #[] #[],.func (.func 108) #[] #[],.string ⟨#[101,110,118]⟩,.slice (some ⟨w.heap.size+1+1,0,none⟩) 2 2,.func (.func 109) #[] #[],.func (.func 110) #[] #[],.func (.func 111) #[] #[],.string ⟨#[115,104,101,108,108]⟩,.slice none 0 0,.func (.func 112) #[] #[],.func (.func 113) #[] #[],.func (.func 114) #[] #[],.string ⟨#[101,120,101,99]⟩,.slice (some ⟨w.heap.size+1+1+1,0,none⟩) 1 1,.func (.func 115) #[] #[],.func (.func 116) #[] #[],.func (.func 117) #[] #[],.string ⟨#[115,117,98,115,121,115,116,101,109]⟩,.slice (some ⟨w.heap.size+1+1+1+1,0,none⟩) 1 1,.func (.func 115) #[] #[],.func (.func 116) #[] #[],.func (.func 118) #[] #[],.string ⟨#[119,105,110,100,111,119,45,99,104,97,110,103,101]⟩,.slice (some ⟨w.heap.size+1+1+1+1+1,0,none⟩) 4 4,.func (.func 119) #[] #[],.func (.func 120) #[] #[],.func (.func 114) #[] #[],.string ⟨#[120,111,110,45,120,111,102,102]⟩,.slice (some ⟨w.heap.size+1+1+1+1+1+1,0,none⟩) 1 1,.func (.func 121) #[] #[],.func (.func 122) #[] #[],.func (.func 114) #[] #[],.string ⟨#[115,105,103,110,97,108]⟩,.slice (some ⟨w.heap.size+1+1+1+1+1+1+1,0,none⟩) 1 1,.func (.func 115) #[] #[],.func (.func 116) #[] #[],.func (.func 118) #[] #[],.string ⟨#[101,120,105,116,45,115,116,97,116,117,115]⟩,.slice (some ⟨w.heap.size+1+1+1+1+1+1+1+1,0,none⟩) 1 1,.func (.func 123) #[] #[],.func (.func 124) #[] #[],.func (.func 114) #[] #[],.string ⟨#[101,120,105,116,45,115,105,103,110,97,108]⟩,.slice (some ⟨w.heap.size+1+1+1+1+1+1+1+1+1,0,none⟩) 4 4,.func (.func 125) #[] #[],.func (.func 126) #[] #[],.func (.func 127) #[] #[]]) ?_ ?_ 177 #[.string ⟨#[]⟩,.slice none 0 0,.nilFunc,.nilFunc,.nilFunc,.string ⟨#[]⟩,.slice none 0 0,.nilFunc,.nilFunc,.nilFunc,.string ⟨#[]⟩,.slice none 0 0,.nilFunc,.nilFunc,.nilFunc,.string ⟨#[]⟩,.slice none 0 0,.nilFunc,.nilFunc,.nilFunc,.string ⟨#[]⟩,.slice none 0 0,.nilFunc,.nilFunc,.nilFunc,.string ⟨#[]⟩,.slice none 0 0,.nilFunc,.nilFunc,.nilFunc,.string ⟨#[]⟩,.slice none 0 0,.nilFunc,.nilFunc,.nilFunc,.string ⟨#[]⟩,.slice none 0 0,.nilFunc,.nilFunc,.nilFunc,.string ⟨#[]⟩,.slice none 0 0,.nilFunc,.nilFunc,.nilFunc,.string ⟨#[]⟩,.slice none 0 0,.nilFunc,.nilFunc,.nilFunc,.string ⟨#[]⟩,.slice none 0 0,.nilFunc,.nilFunc,.nilFunc] ?_ hiR ?_ ?_ ?_
 ·simp[go_sem]
 ·simp[go_sem]
 ·rw[←HW9.out];exact B9.out
 ·rfl
 ·first|(simp[Value.oneCell'];done)|(kernel_rfl)|trace_state
 intro w2 HB M2
 rw[←HW9.out] at M2
 go_wp2
 refine bodyPost_ret_by (results_cell_row Tryz.results60 _ _ w.heap.size 177 _ _ _ rfl HB Tryz.underlying177 rfl hiR) rfl ?_
 have hlit:Zig w.heap.size=#[.string ⟨#[]⟩,.slice none 0 0,.nilFunc,.nilFunc,.nilFunc,.string ⟨#[112,116,121,45,114,101,113]⟩,.slice (some ⟨w.heap.size+1,0,none⟩) 6 6,.func (.func 106) #[] #[],.func (.func 107) #[] #[],.func (.func 108) #[] #[],.string ⟨#[101,110,118]⟩,.slice (some ⟨w.heap.size+1+1,0,none⟩) 2 2,.func (.func 109) #[] #[],.func (.func 110) #[] #[],.func (.func 111) #[] #[],.string ⟨#[115,104,101,108,108]⟩,.slice none 0 0,.func (.func 112) #[] #[],.func (.func 113) #[] #[],.func (.func 114) #[] #[],.string ⟨#[101,120,101,99]⟩,.slice (some ⟨w.heap.size+1+1+1,0,none⟩) 1 1,.func (.func 115) #[] #[],.func (.func 116) #[] #[],.func (.func 117) #[] #[],.string ⟨#[115,117,98,115,121,115,116,101,109]⟩,.slice (some ⟨w.heap.size+1+1+1+1,0,none⟩) 1 1,.func (.func 115) #[] #[],.func (.func 116) #[] #[],.func (.func 118) #[] #[],.string ⟨#[119,105,110,100,111,119,45,99,104,97,110,103,101]⟩,.slice (some ⟨w.heap.size+1+1+1+1+1,0,none⟩) 4 4,.func (.func 119) #[] #[],.func (.func 120) #[] #[],.func (.func 114) #[] #[],.string ⟨#[120,111,110,45,120,111,102,102]⟩,.slice (some ⟨w.heap.size+1+1+1+1+1+1,0,none⟩) 1 1,.func (.func 121) #[] #[],.func (.func 122) #[] #[],.func (.func 114) #[] #[],.string ⟨#[115,105,103,110,97,108]⟩,.slice (some ⟨w.heap.size+1+1+1+1+1+1+1,0,none⟩) 1 1,.func (.func 115) #[] #[],.func (.func 116) #[] #[],.func (.func 118) #[] #[],.string ⟨#[101,120,105,116,45,115,116,97,116,117,115]⟩,.slice (some ⟨w.heap.size+1+1+1+1+1+1+1+1,0,none⟩) 1 1,.func (.func 123) #[] #[],.func (.func 124) #[] #[],.func (.func 114) #[] #[],.string ⟨#[101,120,105,116,45,115,105,103,110,97,108]⟩,.slice (some ⟨w.heap.size+1+1+1+1+1+1+1+1+1,0,none⟩) 4 4,.func (.func 125) #[] #[],.func (.func 126) #[] #[],.func (.func 127) #[] #[]]:=by kernel_rfl
 refine⟨by rw[hlit],Mod.toExt E9 M2 (by intro k hk he;omega),?_⟩
 intro i hi
 have hi2:i=0∨i=1∨i=2∨i=3∨i=4∨i=5∨i=6∨i=7∨i=8∨i=9∨i=10:=by omega
 rcases hi2 with rfl|rfl|rfl|rfl|rfl|rfl|rfl|rfl|rfl|rfl|rfl
 ·exact RdN.nil _ _
 ·exact RdN.mod R1.out M2 (fun k hk he=>by have h1:=Option.some.inj (show some (w.heap.size+1)=some k from hk);have h2:k=w.heap.size:=he;omega)
 ·exact RdN.mod R2.out M2 (fun k hk he=>by have h1:=Option.some.inj (show some (w.heap.size+1+1)=some k from hk);have h2:k=w.heap.size:=he;omega)
 ·exact RdN.nil _ _
 ·exact RdN.mod R4.out M2 (fun k hk he=>by have h1:=Option.some.inj (show some (w.heap.size+1+1+1)=some k from hk);have h2:k=w.heap.size:=he;omega)
 ·exact RdN.mod R5.out M2 (fun k hk he=>by have h1:=Option.some.inj (show some (w.heap.size+1+1+1+1)=some k from hk);have h2:k=w.heap.size:=he;omega)
 ·exact RdN.mod R6.out M2 (fun k hk he=>by have h1:=Option.some.inj (show some (w.heap.size+1+1+1+1+1)=some k from hk);have h2:k=w.heap.size:=he;omega)
 ·exact RdN.mod R7.out M2 (fun k hk he=>by have h1:=Option.some.inj (show some (w.heap.size+1+1+1+1+1+1)=some k from hk);have h2:k=w.heap.size:=he;omega)
 ·exact RdN.mod R8.out M2 (fun k hk he=>by have h1:=Option.some.inj (show some (w.heap.size+1+1+1+1+1+1+1)=some k from hk);have h2:k=w.heap.size:=he;omega)
 ·exact RdN.mod R9.out M2 (fun k hk he=>by have h1:=Option.some.inj (show some (w.heap.size+1+1+1+1+1+1+1+1)=some k from hk);have h2:k=w.heap.size:=he;omega)
 ·exact RdN.mod R10.out M2 (fun k hk he=>by have h1:=Option.some.inj (show some (w.heap.size+1+1+1+1+1+1+1+1+1)=some k from hk);have h2:k=w.heap.size:=he;omega)
theorem Zch (k:Nat)(hk:k<11)(n:Nat):∀w,(Instr.index 177 (.agg (Zig n)) (.int .i64 (k:Int))).run Tryz.prog w= .ok (.agg (Zbv n k).toArray) w:=by
 rcases k with _|_|_|_|_|_|_|_|_|_|_|k
 all_goals first|exact fun w=>by kernel_rfl|omega
theorem Zjg (k:Nat)(hk:k<11)(n:Nat):(Zbv n k).toArray.size=5∧(Zbv n k).toArray.all (·.oneCell')=true:=by
 rcases k with _|_|_|_|_|_|_|_|_|_|_|k
 all_goals first|exact⟨rfl,by simp[Zbv,Value.oneCell']⟩|omega
theorem Zq6 (k n b:Nat)(h:(kvQ n k).ownBlock=some b):n<b:=by
 unfold kvQ at h
 split at h<;>simp[Value.ownBlock] at h<;>omega
theorem ZeY (w:World):Calls Tryz.prog 60 #[] w fun e w'=>e= .returned (.agg (Zig w.heap.size))∧Ext w w'∧Hid (∀i,i≤10→RI .i64 w' (kvQ w.heap.size i) (kindsQ i)):=
 (ZkA w).mono fun _ _ h=>h
theorem Zst (k:Nat)(h1:1≤k)(h10:k≤10)(w:World):Calls Tryz.prog 28 #[.int .i64 (k:Int)] w fun e w'=>
  ∃n,e= .returned (.tuple #[.agg (Zbv n k).toArray,.bool true])∧Ext w w'∧RI .i64 w' (kvQ n k) (kindsQ k):=by
 have hiR:=zi Tryz.prog 114 5
 have hix:=fun n=>Zch k (by omega) n
 have hc:=zh fun n=>Zjg k (by omega) n
 have HR:=zh fun w'=>ZeY w'
 have hi:∀n,(Tryz.prog.info? 114).map (·.size)=some (Zbv n k).toArray.size:=fun n=>by rw[hiR,(hc.out n).1]
 have hi':=zh hi
 clear hi
 go_enter Tryz.func28,Tryz.ntmps28
 go_wp2_with(first|((go_at_call 60;(with_reducible refine(HR.out _).mono ?_);rintro e w1 ⟨rfl,E1,R1⟩))|(refine wpList_store_M rfl 114 _ _ rfl w.heap.size _ rfl rfl 114 #[.string ⟨#[]⟩,.slice none 0 0,.nilFunc,.nilFunc,.nilFunc] ?_ (hi'.out _) ?_ (hc.out _).2 ?_;exact Blk.ext (Blk.new _ _ _) E1;(rw[(hc.out _).1];rfl);intro w2 HB M2))
 have hi:=hi'.out (w.heap.size+1)
 refine bodyPost_ret_by (Kb.Zab Tryz.results28 _ _ w.heap.size 114 _ _ _ rfl _ rfl HB Tryz.underlying114 rfl hi) rfl ?_
 refine⟨w.heap.size+1,rfl,Mod.toExt zX M2 (by intro k hk he;omega),?_⟩
 have hs:∀o,(w.alloc o).heap.size=w.heap.size+1:=fun o=>by first|rfl|simp[go_sem]|simp
 have R2:=R1.out k h10
 rw[hs] at R2
 exact RdN.mod R2 M2 (fun b hb he=>by have h1:=Zq6 _ _ _ hb;have h2:b=w.heap.size:=he;omega)
end Go.Proofs.YtmmhcllibpmfnaaGreatDoor
