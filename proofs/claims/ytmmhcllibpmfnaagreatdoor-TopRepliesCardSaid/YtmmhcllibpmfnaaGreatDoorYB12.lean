/- Parts SC28 SE28 UH28 KQ28 WA28 UI28 UJ28 UK28 EA28. No condition. -/
import Derived.Test.YtmmhcllibpmfnaaGreatDoorYB06
import Derived.Test.YtmmhcllibpmfnaaGreatDoorYB07
import Derived.Test.YtmmhcllibpmfnaaGreatDoorYB08
import Derived.Test.YtmmhcllibpmfnaaGreatDoorYB11
set_option maxRecDepth 100000
set_option maxHeartbeats 8000000
namespace Go.Proofs.YtmmhcllibpmfnaaGreatDoor
open Go.RowKit Go.Kb
theorem Zlu {A:Nat→Prop}(k:Nat)(bs fs:Array Value)(f:(ByteArray×ByteArray)→Bool)(v:Value)(l:List (ByteArray×ByteArray))(w:World)(h:RdY Zbc A w v l)(hf:Zg0 k bs fs Zbc f w):
 Calls Tryz.prog 358 #[v,.func (.func k) bs fs] w fun e w'=>e= .returned (.int .i64 (Zdq f l))∧Ext w w':=by
 obtain⟨Ad,c,rfl,hc1,hc2⟩:=h.shape
 have H:=zh (h.mono (B:=fun _=>True) fun _ _ _=>trivial)
 have HF:=zh hf
 have hi:∀cs:List Value,cs.length=2→(Tryz.prog.info? 367).map (·.size)=some cs.length:=fun cs hcs=>by rw[hcs];kernel_rfl
 have HI:=zh hi
 obtain⟨n,hn⟩:=zm (l.length)
 rw[hn] at H hc1⊢
 have HN:=zh hn
 clear h hf hn hi
 go_enter Tryz.func358,Tryz.ntmps358
 go_wp2
 go_loopw [8] (fun i wr=>∃m:Nat,m≤n∧i= .int .i64 m∧Hid (∀p∈l.take m,f p=false)∧Ext w wr) (fun i _=>n - (intOf i).toNat)
 case atStart=>exact⟨0,Nat.zero_le _,rfl,zh (by simp),zX⟩
 case round=>
  obtain⟨m,hm,rfl,HD,hE⟩:=hrel
  by_cases hlt:m<n
  ·obtain⟨b,off,c2,d,cs,hv,hd,hrel2,hlen,hcell⟩:=(H.out.ext hE).cells (j:=m) (by rw[HN.out];exact hlt)
   simp only[Value.slice.injEq] at hv
   obtain⟨rfl,-,rfl⟩:=hv
   have HCELL:=zh (show wr.rangeAt b (off+m*2) cs from hcell)
   have HLEN:=zh (show cs.length=2 from hlen)
   have HA:=zh (HF.out.2 cs d wr hE hrel2.out)
   have HK:=HF.out.1
   clear hlen hcell
   cases hp:f d
   ·rw[hp] at HA
    have HP:=zh hp
    clear hp
    go_wp2_with(first
     |(refine wpList_load_mid rfl 367 _ rfl b (off+m*2) rfl cs _ HCELL.out Tryz.underlying367 rfl (HI.out _ HLEN.out) ?_)
     |(refine HA.out.mono ?_;rintro e w2 ⟨rfl,E2⟩))
    go_roundw
    case rel=>exact⟨m+1,by omega,by go_num,zh (by
     rw[List.take_add_one,hd.out]
     intro q hq
     rcases List.mem_append.1 hq with h|h
     ·exact HD.out q h
     ·simp at h;rw[h];exact HP.out),zX⟩
    case measure=>simp[intOf];omega
   ·rw[hp] at HA
    have HP:=zh hp
    clear hp
    go_wp2_with(first
     |(refine wpList_load_mid rfl 367 _ rfl b (off+m*2) rfl cs _ HCELL.out Tryz.underlying367 rfl (HI.out _ HLEN.out) ?_)
     |(refine HA.out.mono ?_;rintro e w2 ⟨rfl,E2⟩))
    go_ret
    exact⟨by rw[ZaZ hd.out HD.out HP.out];rfl,zX⟩
  ·go_wp2
   go_ret
   obtain rfl:m=l.length:=by have:=HN.out;omega
   have:=HD.out
   rw[List.take_length] at this
   exact⟨by rw[ZaD this];rfl,zX⟩
/- slices.Clone at one slice type: slices.Clone[[]parlour/session.Var,parlour/session.Var] (var), slice type []session.Var, element parlour/session.Var, rep Zbc -/
theorem Ziv:(Tryz.prog.info? 367).map (fun i=>(i.zero,i.size,i.bytes))=some (some (.agg #[.string ⟨#[]⟩,.string ⟨#[]⟩]),(Zbc).size,32):=by kernel_rfl
theorem Zlv {A:Nat→Prop}(v:Value)(ds:List _)(w:World)(h:RdY Zbc A w v ds)(hn:ds.length*32≤140737488355328):
 Calls Tryz.prog 281 #[v] w fun e w'=>∃Ad c,e= .returned (.slice Ad ds.length c)∧OwnS Zbc 367 w.heap.size (fun k=>A k∧k<w.heap.size) w' (.slice Ad ds.length c) ds∧Ext w w':=by
 obtain⟨us,⟨hl,Ad,c,rfl,hnc,hcm,hA⟩,he⟩:=id h
 have H:=zh h
 have HL:=zh hl
 clear h hl he
 have heq:=fun u=>Lib.run_eql_slice_nil (P:=Tryz.prog) u 307 _ Ad ds.length c 0 0 Tryz.underlying307
 rcases Ad with _|ad
 ·have h0:ds.length=0∧c=0:=by
   rcases hA with rfl|⟨b,off,h0,_⟩
   ·omega
   ·cases h0
  obtain⟨h1,rfl⟩:=h0
  obtain rfl:ds=[]:=List.eq_nil_of_length_eq_zero h1
  clear hA HL h1
  simp only[List.length_nil] at heq⊢
  go_enter Tryz.func281,Tryz.ntmps281
  go_wp2
  go_ret
  exact⟨_,_,rfl,OwnS.nil _ _ _ _ _,zX⟩
 ·clear hA
  go_enter Tryz.func281,Tryz.ntmps281
  go_wp2_with((at_builtin;refine wpList_app (e:=Zbc) (base:=w.heap.size) (B:=fun k=>A k∧k<w.heap.size) (A:=fun k=>A k∧k<w.heap.size) rfl _ _ rfl Tryz.underlying307 Ziv rfl (OwnS.empty _ _ _ rfl (Nat.le_refl _)) rfl (RdY.alloc (RdY.lt H.out) _) rfl (fun k _ hk=>⟨hk,fun h=>by have:=hk.2;simp[Value.ownBlock] at h;omega⟩) (N:=ds.length) (by simp) (by simp[maxLen];omega) (by omega) (by simp) ?_;intro A1 c1 w1 hown hM hB;simp only[List.nil_append] at hown))
  go_ret
  exact⟨_,_,rfl,hown,zX⟩
theorem ZhH (args:Array Value)(w:World):(callFunc 359 args).run Tryz.prog w= .ok (.enter 359 args) w:=by kernel_rfl
theorem ZnR (n a:Nat)(d:ByteArray×ByteArray)(tx:ByteArray)(w:World)(h:Blk w n 370 #[.pointer (some ⟨a,0,none⟩)])(h33:w.cell? ⟨a,33,none⟩=some (.string tx)):
 Calls Tryz.prog 359 #[.agg #[.string d.1,.string d.2],.pointer (some ⟨n,0,none⟩)] w fun e w'=>e= .returned (.bool (d.1.toList==tx.toList))∧Ext w w':=by
 obtain⟨W1,hW1⟩:=zn (w.alloc (.cells #[.string d.1,.string d.2] 367))
 have E1:Ext w W1:=by rw[hW1];exact(Ext.refl _).alloc _
 have c0:W1.cell? ⟨w.heap.size,0,none⟩=some (.string d.1):=by rw[hW1];simp
 have c1:=(h.ext E1).cell 0
 have c2:=Zaa E1 h33
 simp only[List.getElem?_toArray,List.getElem?_cons_zero] at c1
 have HW:=zh hW1
 clear h h33 hW1
 go_enter Tryz.func359,Tryz.ntmps359
 go_upto_region 1 with fail
 rw[←HW.out]
 refine zg (fun w'=>Ext W1 w') zX fun hHeld=>?_
 have EH:Ext W1 W1.drew:=Ext.drew (Ext.refl _)
 refine zr 0 ?_
 refine zv 1 c0 ?_
 refine zv 2 c1 ?_
 refine zr 3 ?_
 refine zr 4 ?_
 refine zr 5 ?_
 refine zv 6 c2 ?_
 refine zr 7 ?_
 refine zr 8 ?_
 refine zd ?_
 go_wp2
 go_ret
 exact⟨rfl,E1.trans EH⟩
theorem ZnS {n a:Nat}{tx:ByteArray}{w:World}(h:Blk w n 370 #[.pointer (some ⟨a,0,none⟩)])(h33:w.cell? ⟨a,33,none⟩=some (.string tx)):Zg0 359 #[] #[.pointer (some ⟨n,0,none⟩)] Zbc (fun v=>v.1.toList==tx.toList) w:=
 ⟨ZhH,fun cs d w' hE hr=>by
  obtain rfl:cs=[.string d.1,.string d.2]:=hr
  exact ZnR n a d tx w' (h.ext hE) (Zaa hE h33)⟩
theorem Zqi {l:List (ByteArray×ByteArray)}{x:ByteArray}(h:0≤ZjE l x):∃ (j:Nat) (p:ByteArray×ByteArray),ZjE l x=j∧l[j]?=some p:=by
 by_cases h9:∃c∈l,(fun v:ByteArray×ByteArray=>v.1.toList==x.toList) c=true
 ·obtain⟨m,c,h1,h2,-⟩:=ZdN h9
  exact⟨m,c,h1,h2⟩
 ·have h1:ZjE l x= -1:=ZaD (fun p hp=>by
   cases h8:(p.1.toList==x.toList) with
   |false=>rfl
   |true=>exact absurd ⟨p,hp,h8⟩ h9)
  omega
theorem ZnT (base a:Nat)(s:Sn)(r:Rq)(ev mv pv:Value)(w:World)(hs:s.Ok)(h:Blk w a 372 (asV s ev r mv pv acN))(he:OwnS Zbc 367 base (fun _=>False) w ev s.env)(hb:base≤w.heap.size):
 Calls Tryz.prog 313 #[.pointer (some ⟨a,0,none⟩)] w (KdP base a r mv pv ev (ZcG s r) w):=by
 obtain⟨Ae,ce,rfl,-,-⟩:=he.shape
 have HQ:=zh (rfl:ZcG s r=ZcG s r)
 unfold ZcG at HQ
 obtain⟨W1,hW1⟩:=zn (w.alloc (.cells #[.pointer (some ⟨a,0,none⟩)] 370))
 have E1:Ext w W1:=by rw[hW1];exact(Ext.refl _).alloc _
 have BN:=zh (show Blk W1 w.heap.size 370 #[.pointer (some ⟨a,0,none⟩)] by rw[hW1];exact Blk.new w _ _)
 have HW:=zh hW1
 have HE:=zh he
 have HB:=zh h
 have HS:=zh hs
 have HB1:=zh (h.ext E1)
 have HE1:=zh (he.ext E1)
 have k31:=Zak HB1.out (Zar hs.t (i:=1) rfl)
 have k30:=Zak HB1.out (Zar hs.t (i:=0) rfl)
 have k33:=Zak HB1.out (Zar hs.t (i:=3) rfl)
 have n0:=BN.out.cell 0
 simp only[List.getElem?_toArray,List.getElem?_cons_zero] at n0
 have hab:=h.lt
 obtain⟨n9,hn9⟩:=zm (w.heap.size)
 have hne:a≠n9:=by omega
 rw[hn9] at BN n0
 obtain⟨L,hL⟩:=zm (s.env.length)
 have HL:=zh hL
 have hL16:L≤16:=by rw[←hL];exact hs.en
 have HIX:=zh (Zlu (A:=fun _=>True) _ _ _ _ _ s.env W1 HE1.out.rdT.y (ZnS BN.out k33))
 obtain⟨i9,hi9⟩:=zm (ZjE s.env r.tx)
 have HI9:=zh hi9
 have HIX:=zh (show Calls Tryz.prog 358 #[.slice Ae L ce,.func (.func 359) #[] #[.pointer (some ⟨n9,0,none⟩)]] W1 (fun e w'=>e= .returned (.int .i64 i9)∧Ext W1 w') by
  rw[←hi9,←hL]
  exact HIX.out)
 obtain⟨st,hst⟩:=zm (s.st)
 have HST:=zh hst
 rw[hst] at k31
 rw[hL] at k30 HE1 HB1
 have hHN:=zh hn9
 clear h he hs hW1 hL hi9 hst hn9
 cases st with
 |true=>
  go_enter Tryz.func313,Tryz.ntmps313
  go_upto_region 1 with fail
  rw[hHN.out,←HW.out]
  go_wp2
  refine bodyPost_ret (v:=.tuple #[]) (results_none rfl _ _ _) rfl ?_
  have hz:ZcG s r=(s,acN):=by unfold ZcG;rw[if_pos HST.out]
  rw[hz]
  exact KdP.of HE.out HB.out rfl (by rw[HL.out];exact HB1.out) (Mod.of_ext E1)
 |false=>
  go_enter Tryz.func313,Tryz.ntmps313
  go_upto_region 1 with fail
  rw[hHN.out,←HW.out]
  go_wp2_with fail
  refine(HIX.out).mono ?_
  rintro e w2 ⟨rfl,E2⟩
  have E02:=zh (E1.trans E2)
  have HB2:=zh (HB1.out.ext E2)
  have HE2:=zh (HE1.out.ext E2)
  have BN2:=zh (BN.out.ext E2)
  have k30:=Zak HB2.out (Zar HS.out.t (i:=0) rfl)
  have k33:=Zak HB2.out (Zar HS.out.t (i:=3) rfl)
  have k34:=Zak HB2.out (Zar HS.out.t (i:=4) rfl)
  have n0:=BN2.out.cell 0
  simp only[List.getElem?_toArray,List.getElem?_cons_zero] at n0
  have hz02:=E02.out.size
  clear HIX HB1 HE1 BN E1 E2 k31 HW
  by_cases h0:0≤i9
  ·obtain⟨j,p,hj,hp⟩:=Zqi (l:=s.env) (x:=r.tx) (by rw[HI9.out];exact h0)
   have HP:=zh hp
   have hjL:j<L:=by rw[←HL.out];exact(List.getElem?_eq_some_iff.1 hp).1
   obtain rfl:i9=j:=by rw[←HI9.out];exact hj
   obtain⟨G,hG,hgb,hfr⟩:=HE2.out.addr (by omega)
   subst hG
   have hf:=hfr (j*2+1)
   obtain⟨b,off,c2,d,cs,hv,hd,hrel2,hlen,hcell⟩:=HE2.out.rdT.y.cells (j:=j) (by rw[HL.out];exact hjL)
   simp only[Value.slice.injEq,Option.some.injEq,Addr.mk.injEq] at hv
   obtain⟨⟨rfl,rfl,-⟩,-,rfl⟩:=hv
   obtain rfl:cs=[.string d.1,.string d.2]:=hrel2.out
   have kx:w2.cell? ⟨G,j*2+1,none⟩=some (.string d.2):=by
    have h9:w2.cell? ⟨G,0+j*2+1,none⟩=some (.string d.2):=hcell 1 _ rfl
    rw[Nat.zero_add] at h9
    exact h9
   have hGa:G≠a:=fun he=>Zai HE2.out HB2.out (by decide) (by rw[he];rfl)
   have hGn:G≠n9:=fun he=>Zai HE2.out BN2.out (by decide) (by rw[he];rfl)
   have hpe:p=d:=by have h8:=hd.out;rw[hp] at h8;exact Option.some.inj h8
   have hw64:(j:Int)<(L:Int):=by omega
   clear hcell hlen hrel2 hd hfr hp hj
   have hGl:G<w2.heap.size:=(HE2.out.row G rfl).2
   have hal:=HB2.out.lt
   have hnl:=BN2.out.lt
   go_upto_region 5 with fail
   refine zg (fun w'=>Kb.Mod (fun k=>k=G) w2 w') (Mod.of_ext (Ext.drew (Ext.refl _))) fun hHeld=>?_
   obtain⟨D,hD⟩:=zn (w2.drew)
   have ED:Ext w2 D:=by rw[hD];exact(Ext.refl _).drew
   rw[←hD] at hHeld⊢
   clear hD
   have hnG:¬n9=G:=fun h9=>hGn h9.symm
   have haG:¬a=G:=fun h9=>hGa h9.symm
   (refine zu 0 (fun _ h=>(h.cell n9 0 hnl hnG).trans n0) ?_)
   refine zr 1 ?_
   refine zr 2 ?_
   refine zr 3 ?_
   (refine zu 4 (fun _ h=>(h.cell a 30 hal haG).trans k30) ?_)
   refine zr 5 ?_
   (refine zu 6 (fun _ h=>(h.cell n9 0 hnl hnG).trans n0) ?_)
   refine zr 7 ?_
   refine zr 8 ?_
   refine zr 9 ?_
   (refine zu 10 (fun _ h=>(h.cell a 34 hal haG).trans k34) ?_)
   refine zr 11 ?_
   refine zr 12 ?_
   have O3:=zh (OwnS.store (e:=Zbc) (i:=1) (x:=.string r.vl) (d':=(p.1,r.vl)) (HE2.out.ext ED) (by rw[HL.out];exact hjL) (by decide) (fun cs d hd hr=>by
    rw[HP.out] at hd
    obtain rfl:=Option.some.inj hd
    have h7:cs=[.string p.1,.string p.2]:=hr
    rw[h7]
    rfl))
   have M3:=zh ((Mod.of_ext (E02.out.trans ED):Kb.Mod (fun k=>k=G) w D).set1 (o:=j*2+1) (.string r.vl))
   have B3:=zh ((HB2.out.ext ED).far (p:=⟨G,j*2+1,none⟩) hGa.symm (.string r.vl))
   have BN3:=zh (BN2.out.ext ED)
   have kx:=Zaa ED kx
   have hf:D.frozen? ⟨G,j*2+1,none⟩=false:=(ED.frozen G _ hGl).trans hf
   have MD:=zh (Mod.of_ext (S:=fun k=>k=G) ED)
   (refine za 13 (MD.out.set1 _) fun hHeld=>?_)
   refine zd ?_
   clear hHeld
   have hz:ZcG s r=({s with env:=s.env.set j (p.1,r.vl)},acY):=by
    unfold ZcG
    rw[if_neg (by rw[HST.out];decide),if_pos (by rw[HI9.out];exact h0),HI9.out]
    unfold ZqN
    rw[Int.toNat_natCast,List.getD_eq_getElem?_getD,HP.out]
    rfl
   have HZ:=zh hz
   clear hz
   obtain⟨w3,hw3⟩:=zn (D.setCell ⟨G,j*2+1,none⟩ (.string r.vl))
   have O3:=zh (show OwnS Zbc 367 base (fun _=>False) w3 (.slice (some ⟨G,0,none⟩) L ce) (s.env.set j (p.1,r.vl)) by rw[hw3];exact O3.out)
   rw[←hw3] at M3 B3
   first|rw[←hw3]|skip
   have n0:=(BN3.out.far (p:=⟨G,j*2+1,none⟩) hGn.symm (.string r.vl)).cell 0
   rw[←hw3] at n0
   simp only[List.getElem?_toArray,List.getElem?_cons_zero] at n0
   have HO:=zh (Zek a _ (.bool false) w3 B3.out (Zar HS.out.t (i:=14) rfl))
   clear k30 k33 k34 hf kx hw3
   go_wp2_with fail
   refine(HO.out).mono ?_
   rintro e w4 ⟨rfl,B4,M4⟩
   rw[Zqg HS.out.t] at B4
   have B4:=zh B4
   have M4:=zh M4
   clear HO n0
   go_wp2
   go_end0
   rw[HZ.out]
   exact⟨rfl,_,B4.out,O3.out.mod M4.out (fun k hk he=>hGa (by rw[←he];exact Option.some.inj hk)) (fun k _ hk=>hk.elim),(M3.out.mono (fun k _ hk=>.inr (by rw[hk];rfl))).trans (M4.out.mono (fun k _ hk=>.inl hk))⟩
  ·by_cases h16:16≤L
   ·have hL6:¬(L:Int)<16:=by omega
    have hL7:(16:Int)≤(L:Int):=by omega
    go_wp2
    refine bodyPost_ret (v:=.tuple #[]) (results_none rfl _ _ _) rfl ?_
    have hz:ZcG s r=(s,acN):=by unfold ZcG;rw[if_neg (by rw[HST.out];decide),if_neg (by rw[HI9.out];omega),if_pos (by rw[HL.out];exact h16)]
    rw[hz]
    exact KdP.of HE.out HB.out rfl (by rw[HL.out];exact HB2.out) (Mod.of_ext E02.out)
   ·have hL7:¬(16:Int)≤(L:Int):=by omega
    have hnn:¬(Value.slice Ae L ce).ownBlock=some n9:=Zai HE2.out BN2.out (by decide)
    have hna:¬(Value.slice Ae L ce).ownBlock=some a:=Zai HE2.out HB2.out (by decide)
    have hnl:=BN2.out.lt
    have hal:=HB2.out.lt
    go_upto_region 3 with fail
    refine Zao 22 (fun w'=>Kb.Mod (fun k=>(Value.slice Ae L ce).ownBlock=some k) w2 w') (by kernel_rfl) (Mod.of_ext (Ext.drew (Ext.refl _))) (fun hHeld=>?_)
    obtain⟨D,hD⟩:=zn (w2.drew)
    have ED:Ext w2 D:=by rw[hD];exact(Ext.refl _).drew
    rw[←hD] at hHeld⊢
    clear hD
    (refine zl 0 (fun _ h=>(h.cell n9 0 hnl hnn).trans n0) ?_)
    (refine zl 1 (fun _ h=>(h.cell n9 0 hnl hnn).trans n0) ?_)
    refine zk 2 ?_
    refine zk 3 ?_
    refine zk 4 ?_
    (refine zl 5 (fun _ h=>(h.cell a 30 hal hna).trans k30) ?_)
    (refine zl 6 (fun _ h=>(h.cell n9 0 hnl hnn).trans n0) ?_)
    refine zk 7 ?_
    refine zk 8 ?_
    refine zk 9 ?_
    (refine zl 10 (fun _ h=>(h.cell a 33 hal hna).trans k33) ?_)
    (refine zl 11 (fun _ h=>(h.cell n9 0 hnl hnn).trans n0) ?_)
    refine zk 12 ?_
    refine zk 13 ?_
    refine zk 14 ?_
    (refine zl 15 (fun _ h=>(h.cell a 34 hal hna).trans k34) ?_)
    refine zk 16 ?_
    refine zy 17 fun K hK=>?_
    go_simp
    have HY:=zh (Blk.new D 367 #[.string r.tx,.string r.vl])
    have EY:=zh (ED.trans ((Ext.refl D).alloc (.cells #[.string r.tx,.string r.vl] 367)))
    refine zo hK (Mod.of_ext EY.out) fun hHeld=>?_
    clear hK K
    have HE5:=zh (HE2.out.ext EY.out)
    have HB5:=zh (HB2.out.ext EY.out)
    have hs5:=EY.out.size
    generalize D.alloc (.cells #[.string r.tx,.string r.vl] 367)=u5 at*
    generalize D.heap.size=nY at*
    clear ED
    refine zy 18 fun K hK=>?_
    refine ZaE (e:=Zbc) (base:=base) (B:=fun _=>False) (A:=fun _=>False) rfl (.tmp 20) (.tmp 32) rfl Tryz.underlying307 Ziv rfl HE5.out rfl (RdY.singleB (e:=Zbc) (cs:=[.string r.tx,.string r.vl]) (d:=(r.tx,r.vl)) rfl HY.out) rfl (fun _ _ h=>h.elim) (N:=L+1) (by rw[HL.out];rfl) (by unfold maxLen;omega) (by omega) (by omega) ?_
    intro A9 c9 u6 o9 M9 X9
    have M69:=(Mod.of_ext EY.out).trans M9
    refine zo hK M69 fun hHeld=>?_
    clear hK K
    have HB6:=zh (HB5.out.mod M9 hna)
    have BN6:=zh ((BN2.out.ext EY.out).mod M9 hnn)
    have o9:=zh o9
    have M69:=zh M69
    clear M9 HY HB5 HE5 EY X9
    (refine zy 19 fun K hK=>?_;go_simp;refine zo hK M69.out fun hHeld=>?_;clear hK K)
    (refine zy 20 fun K hK=>?_;go_simp;refine zo hK M69.out fun hHeld=>?_;clear hK K)
    refine zk 21 ?_
    have q30:=Zak HB6.out (Zar HS.out.t (i:=0) rfl)
    have f30:=HB6.out.frozen 30
    (refine Zam (rs:=[22]) (by kernel_rfl) (by simp) ?_;refine Zaj.last rfl (fun K hK=>?_) Zaj.nil;go_simp;refine hK.out _ _ ?_;clear hK K;(try simp only[zP]))
    refine Zaw (by kernel_rfl) ?_ _
    have M7:Kb.Mod (fun k=>k=a) u6 (u6.setCell ⟨a,30,none⟩ (.slice A9 (L+1) c9)):=(Mod.refl _ _).set1 _
    have HB7:=zh (show Blk (u6.setCell ⟨a,30,none⟩ (.slice A9 (L+1) c9)) a 372 (asV s (.slice A9 (L+1) c9) r mv pv acN) by
     have h9:=HB6.out.set_ 30 (.slice A9 (L+1) c9)
     rw[as30 HS.out.t] at h9
     exact h9)
    have n7:=(BN6.out.mod M7 hne.symm).cell 0
    simp only[List.getElem?_toArray,List.getElem?_cons_zero] at n7
    have O7:=zh (o9.out.mod M7 (fun k hk he=>Zai o9.out HB6.out (by decide) (by rw[hk,he])) (fun k _ hk=>hk.elim))
    have M07:=zh (show Kb.Mod (fun k=>k=a∨(Value.slice Ae L ce).ownBlock=some k) w (u6.setCell ⟨a,30,none⟩ (.slice A9 (L+1) c9)) from(((Mod.of_ext E02.out).trans (M69.out.mono (fun k _ hk=>.inr hk)))).trans (M7.mono (fun k _ hk=>.inl hk)))
    clear M7 HB6 o9 M69 q30 f30 hHeld
    obtain⟨u7,hu7⟩:=zn (u6.setCell ⟨a,30,none⟩ (.slice A9 (L+1) c9))
    rw[←hu7] at HB7 n7 O7 M07⊢
    have HO:=zh (Zek a _ (.bool false) u7 HB7.out (Zar HS.out.t (i:=14) rfl))
    clear hu7 k30 k33 k34 n0
    go_wp2_with fail
    refine(HO.out).mono ?_
    rintro e w8 ⟨rfl,B8,M8⟩
    rw[Zqg HS.out.t] at B8
    have B8:=zh B8
    have M8:=zh M8
    clear HO n7
    go_wp2
    go_end0
    have hz:ZcG s r=({s with env:=s.env++ [(r.tx,r.vl)]},acY):=by unfold ZcG;rw[if_neg (by rw[HST.out];decide),if_neg (by rw[HI9.out];omega),if_neg (by rw[HL.out];exact h16)]
    rw[hz,HL.out]
    exact⟨rfl,_,B8.out,O7.out.mod M8.out (fun k hk he=>Zai O7.out HB7.out (by decide) (by rw[hk,he])) (fun k _ hk=>hk.elim),M07.out.trans (M8.out.mono (fun k _ hk=>.inl hk))⟩
theorem Zqj {T:TypeId}{base:Nat}{B B':Nat→Prop}{w:World}{v:Value}{l:List (ByteArray×ByteArray)}(h:OwnS Zbc T base B w v l):OwnS Zbc T base B' w v l:=by
 obtain⟨us,ho,he,h2⟩:=h
 exact⟨us,ho,he,h2⟩
theorem Zlw {A B:Nat→Prop}{w:World}{v:Value}{l:List (ByteArray×ByteArray)}(h:RdY Zbc A w v l):RdY Zbc B w v l:=by
 obtain⟨us,hr,he,h2⟩:=h
 exact⟨us,hr,he,h2⟩
abbrev sesV (s:Sn)(ev:Value):Array Value:=(sesC s ev).toArray
abbrev acV (a:Ac):Array Value:=(acC a).toArray
theorem ZrG {α:Type}{l:List α}(h:l.length=24):∃s0 s1 s2 s3 s4 s5 s6 s7 s8 s9 s10 s11 s12 s13 s14 s15 s16 s17 s18 s19 s20 s21 s22 s23,l=[s0,s1,s2,s3,s4,s5,s6,s7,s8,s9,s10,s11,s12,s13,s14,s15,s16,s17,s18,s19,s20,s21,s22,s23]:=
 match l,h with
 | [s0,s1,s2,s3,s4,s5,s6,s7,s8,s9,s10,s11,s12,s13,s14,s15,s16,s17,s18,s19,s20,s21,s22,s23],_=>⟨s0,s1,s2,s3,s4,s5,s6,s7,s8,s9,s10,s11,s12,s13,s14,s15,s16,s17,s18,s19,s20,s21,s22,s23,rfl⟩
theorem ZhI (s:Sn)(ev:Value)(r:Rq)(mv:Value)(Ap:Option Addr)(np cp:Nat)(h:s.t.Ok):Tryz.prog.built 372 [(0,.agg (sesV s ev)),(1,.agg (rqA r mv)),(2,.slice Ap np cp)]=some (asV s ev r mv (.slice Ap np cp) acN):=by
 obtain⟨s0,s1,s2,s3,s4,s5,s6,s7,s8,s9,s10,s11,s12,s13,s14,s15,s16,s17,s18,s19,s20,s21,s22,s23,hx⟩:=ZrG (Md.Tm.len h)
 unfold sesV sesC asV asC Zcc asT rqL acC acN
 rw[hx]
 simp only[List.cons_append,List.nil_append]
 kernel_rfl
theorem sesC_one (s:Sn)(ev:Value)(he:ev.oneCell'=true):(sesV s ev).all (·.oneCell')=true:=all_oneCell_toArray (fun v hv=>by
 unfold sesC at hv
 rcases List.mem_append.1 hv with h|h
 ·simp[Zcc] at h
  rcases h with rfl|rfl|rfl|rfl|rfl|rfl<;>rfl
 ·rcases List.mem_append.1 h with h|h
  ·have h9:=Md.Tm.one s.t
   rw[Array.all_eq_true_iff_forall_mem] at h9
   exact h9 v (by unfold Md.Tm.arr;simpa using h)
  ·simp at h
   rcases h with rfl|rfl
   ·exact he
   ·rfl)
theorem Ze6 {s:Sn}{ev:Value}(h:s.t.Ok):(sesV s ev)[30]?=some ev:=by
 have h6:(Zcc s).length=6:=rfl
 rw[List.getElem?_toArray,sesC,List.getElem?_append_right (by omega),List.getElem?_append_right (by rw[Md.Tm.len h,h6];omega),Md.Tm.len h,h6]
 rfl
theorem Zew {s:Sn}{ev ev2:Value}(h:s.t.Ok):(sesV s ev).setIfInBounds 30 ev2=sesV s ev2:=by
 have h6:(Zcc s).length=6:=rfl
 rw[List.setIfInBounds_toArray,sesC,List.set_append_right _ _ (by omega),List.set_append_right _ _ (by rw[Md.Tm.len h,h6];omega),Md.Tm.len h,h6]
 rfl
theorem Zqk {s:Sn}{ev:Value}{r:Rq}{mv pv:Value}{a:Ac}{i:Nat}{u:Value}(hu:(sesC s ev)[i]?=some u):(asV s ev r mv pv a)[0+i]?=some u:=by
 rw[Nat.zero_add,List.getElem?_toArray]
 have e1:asC s ev r mv pv a=sesC s ev++ (rqL r mv++ (pv::acC a)):=by simp[asC,sesC,asT]
 rw[e1,List.getElem?_append_left (List.getElem?_eq_some_iff.1 hu).1]
 exact hu
theorem ZrH {s:Sn}{ev:Value}{r:Rq}{mv pv:Value}{a:Ac}(h:s.t.Ok){i:Nat}{u:Value}(hu:(acC a)[i]?=some u):(asV s ev r mv pv a)[44+i]?=some u:=by
 have h9:=Zar (s:=s) (ev:=ev) (r:=r) (mv:=mv) (pv:=pv) (a:=a) h (i:=14+i) (u:=u) (by
  have e1:asT s ev r mv pv a=(ev:: .bool s.st::(rqL r mv++ [pv]))++acC a:=by simp[asT]
  have hl:(ev::Value.bool s.st::(rqL r mv++ [pv])).length=14:=by simp[rqL]
  rw[e1,List.getElem?_append_right (by omega),hl,show 14+i - 14=i by omega]
  exact hu)
 rw[show 30+(14+i)=44+i by omega] at h9
 exact h9
def kiF:Nat→Nat
 |1=>312
 |2=>313
 |3=>314
 |4=>315
 |5=>316
 |6=>317
 |8=>318
 |_=>311
theorem ZsM (k:Nat)(h1:1≤k)(h10:k≤10):∀w',(Instr.index 374 (.agg kiA) (.int .i64 (k:Int))).run Tryz.prog w'= .ok (.func (.func (kiF k)) #[] #[]) w':=by
 rcases k with _|_|_|_|_|_|_|_|_|_|_|k
 ·omega
 all_goals first|omega|(intro w;kernel_rfl)
theorem en_1 (args:Array Value)(w:World):(callFunc 312 args).run Tryz.prog w= .ok (.enter 312 args) w:=by kernel_rfl
theorem en_2 (args:Array Value)(w:World):(callFunc 313 args).run Tryz.prog w= .ok (.enter 313 args) w:=by kernel_rfl
theorem en_3 (args:Array Value)(w:World):(callFunc 314 args).run Tryz.prog w= .ok (.enter 314 args) w:=by kernel_rfl
theorem en_5 (args:Array Value)(w:World):(callFunc 316 args).run Tryz.prog w= .ok (.enter 316 args) w:=by kernel_rfl
theorem en_6 (args:Array Value)(w:World):(callFunc 317 args).run Tryz.prog w= .ok (.enter 317 args) w:=by kernel_rfl
theorem en_8 (args:Array Value)(w:World):(callFunc 318 args).run Tryz.prog w= .ok (.enter 318 args) w:=by kernel_rfl
theorem en_0 (args:Array Value)(w:World):(callFunc 311 args).run Tryz.prog w= .ok (.enter 311 args) w:=by kernel_rfl
theorem ZsN (k:Nat)(args:Array Value)(w:World):(callFunc (kiF k) args).run Tryz.prog w= .ok (.enter (kiF k) args) w:=by
 unfold kiF
 split
 ·exact en_1 args w
 ·exact en_2 args w
 ·exact en_3 args w
 ·exact Zhf args w
 ·exact en_5 args w
 ·exact en_6 args w
 ·exact en_8 args w
 ·exact en_0 args w
theorem ZrI {A A2:Nat→Prop}(base a:Nat)(s:Sn)(r:Rq)(ev mv pv:Value)(ns:List ByteArray)(k:Nat)(w:World)(hs:s.Ok)(h:Blk w a 372 (asV s ev r mv pv acN))(he:OwnS Zbc 367 base (fun _=>False) w ev s.env)(hb:base≤w.heap.size)(hp:RdY PgR A w pv ns)(hm:RdS Ub8 A2 w mv r.mo)(hbs:Bs r.mo)(hx:r.tx.size≤100000000):
 Calls Tryz.prog (kiF k) #[.pointer (some ⟨a,0,none⟩)] w (KdP base a r mv pv ev (ZfM ns s r k) w):=by
 unfold kiF ZfM
 split
 ·exact ZnQ base a s r ev mv pv w hs h he hm hbs
 ·exact ZnT base a s r ev mv pv w hs h he hb
 ·exact ZjF base a s r ev mv pv ns w hs h he hp
 ·exact ZjG base a s r ev mv pv ns w hs h he hp hx
 ·exact ZnP base a s r ev mv pv ns w hs h he hp
 ·exact ZhD base a s r ev mv pv w hs h he
 ·exact ZhE base a s r ev mv pv w hs h he
 ·rename_i h1 h2 h3 h4 h5 h6 h8
  split
  ·exact absurd rfl h1
  ·exact absurd rfl h2
  ·exact absurd rfl h3
  ·exact absurd rfl h4
  ·exact absurd rfl h5
  ·exact absurd rfl h6
  ·exact absurd rfl h8
  ·exact ZgI base a s r ev mv pv w h he
def ZrJ (q:Sn×Ac)(w:World)(e:Ending)(w':World):Prop:=
 ∃ev',e= .returned (.tuple #[.agg (sesV q.1 ev'),.agg (acV q.2)])∧OwnS Zbc 367 w.heap.size (fun _=>False) w' ev' q.1.env∧Ext w w'
theorem Zhu {A A2:Nat→Prop}(s:Sn)(ev vb pv:Value)(r:Rq)(ns:List ByteArray)(k:Nat)(w:World)(hs:s.Ok)(hev:RdY Zbc A2 w ev s.env)(h:RI .u8 w vb (encL (fldsQ r k)))(hk:r.k=(k:Int))(h1:1≤k)(h10:k≤10)(ha:Zbe r=0)(hr:r.Ok)(hp:RdY PgR A w pv ns):
 Calls Tryz.prog 224 #[.agg (sesV s ev),.string (nmQ k),vb,pv] w (ZrJ (ZfM ns s (ownQ r k) k) w):=by
 have hiS:=zi Tryz.prog 309 32
 have hiSL:∀ (s:Sn) (ev:Value),s.t.Ok→(Tryz.prog.info? 309).map (·.size)=some (sesC s ev).length:=fun s ev h=>by rw[sesC_len h];exact hiS
 have hiSA:∀ (s:Sn) (ev:Value),s.t.Ok→(Tryz.prog.info? 309).map (·.size)=some (sesV s ev).size:=fun s ev h=>by rw[List.size_toArray];exact hiSL s ev h
 have hiR:=zi Tryz.prog 46 11
 have hiA:=zi Tryz.prog 321 8
 obtain⟨Ap,cp,rfl,-,-⟩:=hp.shape
 obtain⟨Ae,ce,rfl,-,-⟩:=hev.shape
 obtain⟨W1,hW1⟩:=zn (((w.alloc (.cells (sesV s (.slice Ae s.env.length ce)) 309)).alloc (.cells ses0.toArray 309)).alloc (.cells (acV acN) 321))
 have E1:Ext w W1:=by rw[hW1];exact(((Ext.refl _).alloc _).alloc _).alloc _
 have B1:=zh (show Blk W1 w.heap.size 309 (sesV s (.slice Ae s.env.length ce)) by rw[hW1];exact((Blk.new w _ _).alloc _).alloc _)
 have B2:=zh (show Blk W1 (w.heap.size+1) 309 ses0.toArray by rw[hW1];exact(Blk.at_ _ _ (by simp)).alloc _)
 have B3:=zh (show Blk W1 (w.heap.size+1+1) 321 (acV acN) by rw[hW1];exact Blk.at_ _ _ (by simp))
 have hw1:w.heap.size+1+1<W1.heap.size:=B3.out.lt
 have HW1:=zh (show W1=_ from hW1)
 have HDC:=zh (fun w' (E:Ext w w')=>Zhd r k vb w' (RdN.ext h E) hk h1 h10 ha hr)
 unfold ZkH at HDC
 have HIX:=zh (ZsM k h1 h10)
 have HEN:=ZsN k
 have HP:=zh hp
 have HS:=zh hs
 have HQB:=zh (show Bs (ownQ r k).mo from by
  have hb0:Bs ([]:List Int):=fun x hx=>by simp at hx
  unfold ownQ
  split
  all_goals first|exact hr.bs|exact hb0)
 have HQT:=zh (show(ownQ r k).tx.size≤100000000 from by
  have h9:=hr.tx
  unfold ownQ
  split
  all_goals first|(show r.tx.size≤_;omega)|(show(⟨#[]⟩:ByteArray).size≤_;decide))
 obtain⟨q,hq⟩:=zm (ownQ r k)
 have hqk:q.k=(k:Int):=by rw[←hq];exact ZpD r k
 rw[hq] at HDC HQB HQT⊢
 obtain⟨M,hM⟩:=zm (q.mo.length)
 have HM:=zh hM
 obtain⟨n0,hn0⟩:=zm (w.heap.size)
 have HN0:=zh hn0
 rw[hn0] at B1 B2 B3 hw1
 have k30:=Zak B1.out (Ze6 hs.t)
 have f30:=B1.out.frozen 30
 have HCL:=zh (Zlv (A:=fun _=>True) (.slice Ae s.env.length ce) s.env W1 (Zlw (hev.ext E1)) (by have:=hs.en;omega))
 have HVE:=zh (hev.ext E1)
 obtain⟨L,hL⟩:=zm (s.env.length)
 have HL:=zh hL
 rw[hL] at B1 HW1 HCL k30⊢
 clear hW1 h ha hn0 hr hs hp hev hq hM hL hk
 go_enter Tryz.func224,Tryz.ntmps224
 go_upto_region 1 with fail
 unfold acV acC acN ses0 at HW1
 rw[←HW1.out]
 rw[HN0.out]
 clear HW1
 generalize Value.agg (sesV s (.slice Ae L ce))=z0
 go_wp2_with fail
 refine(HCL.out).mono ?_
 rintro e w2 ⟨Ac,cc,rfl,OV,E2⟩
 first|rw[HL.out] at OV|skip
 first|rw[HL.out]|skip
 have B1:=zh (B1.out.ext E2)
 have B2:=zh (B2.out.ext E2)
 have B3:=zh (B3.out.ext E2)
 have hs2:=E2.size
 have k30:=Zak B1.out (Ze6 HS.out.t)
 have f30:=B1.out.frozen 30
 have B13:=zh (show Blk (w2.setCell ⟨n0,30,none⟩ (.slice Ac L cc)) n0 309 (sesV s (.slice Ac L cc)) from by
  have h9:=B1.out.set_ 30 (.slice Ac L cc)
  rw[Zew HS.out.t] at h9
  exact h9)
 have M3:Kb.Mod (fun k=>k=n0) w2 (w2.setCell ⟨n0,30,none⟩ (.slice Ac L cc)):=(Mod.refl _ _).set1 _
 have B23:=zh (B2.out.mod M3 (by omega))
 have B33:=zh (B3.out.mod M3 (by omega))
 have E03:=zh (Mod.toExt (E1.trans E2) M3 (fun k hk he=>by have:=HN0.out;omega))
 have hz1:n0+1+1<W1.heap.size:=hw1
 have OV3:=zh ((Zqj (B':=fun _=>False) OV).mod M3 (fun k hk he=>by have:=(OV.row k hk).1;omega) (fun k _ hk=>hk.elim))
 go_upto_region 2 with fail
 obtain⟨w3,hw3⟩:=zn (w2.setCell ⟨n0,30,none⟩ (.slice Ac L cc))
 rw[←hw3] at B13 B23 B33 E03 OV3⊢
 have hs3:n0+1+1<w3.heap.size:=B33.out.lt
 have hWz3:W1.heap.size≤w3.heap.size:=by rw[hw3];exact Nat.le_trans hs2 M3.size
 clear hw3 M3 B1 B2 B3 k30 f30 E2 hs2 hw1 OV HCL
 go_wp2_with fail
 refine(HDC.out _ E03.out).mono ?_
 rintro e w4 ⟨mv,rfl,HM4,E34⟩
 have B14:=zh (B13.out.ext E34)
 have B24:=zh (B23.out.ext E34)
 have B34:=zh (B33.out.ext E34)
 have E04:=zh (E03.out.trans E34)
 have OV4:=zh (OV3.out.ext E34)
 have hs4:=E34.size
 have B8:=zh (Blk.new w4 46 rqZ)
 obtain⟨Am,cm,rfl,-,-⟩:=HM4.shape
 rw[HM.out] at HM4⊢
 have HM4:=zh HM4
 clear HDC B13 B23 B33 OV3
 go_upto_region 5 with(refine wpList_store_M rfl 46 _ _ rfl w4.heap.size _ rfl rfl 46 _ B8.out hiR rfl (by simp[Value.oneCell']) ?_;intro w5 P5 M5)
 have E45:Ext w4 w5:=Mod.toExt ((Ext.refl _).alloc _) M5 (fun k hk he=>by omega)
 have P5:=zh P5
 have B15:=zh (B14.out.ext E45)
 have B25:=zh (B24.out.ext E45)
 have B35:=zh (B34.out.ext E45)
 have E05:=zh (E04.out.trans E45)
 have OV5:=zh (OV4.out.ext E45)
 have HM5:=zh (HM4.out.ext E45)
 have hs5:=E45.size
 have E35:=E34.trans E45
 obtain⟨nr,hnr⟩:=zm (w4.heap.size)
 rw[hnr] at P5 hs5⊢
 have hnr3:n0+1+1<nr:=by omega
 clear B14 B24 B34 E04 M5 E45 B8 hnr E34 hs4 E03 OV4 HM4
 have hbu:=zh (ZhI s (.slice Ac L cc) q (.slice Am M cm) Ap ns.length cp HS.out.t)
 go_upto_region 6 with(first|(refine wpList_load_row rfl 309 _ rfl _ rfl 309 _ _ _ B15.out Tryz.underlying309 rfl (hiSA _ _ HS.out.t) ?_)|(refine wpList_load_row rfl 46 _ rfl _ rfl 46 _ _ _ P5.out Tryz.underlying46 rfl hiR ?_)|(refine Md.wpList_build_eq rfl 372 _ rfl (L:=asV s (.slice Ac L cc) q (.slice Am M cm) (.slice Ap ns.length cp) acN) ?_ ?_;·(simp[go_sem];exact hbu.out)))
 obtain⟨w6,hw6⟩:=zn (w5.alloc (.cells (asV s (.slice Ac L cc) q (.slice Am M cm) (.slice Ap ns.length cp) acN) 372))
 have E56:Ext w5 w6:=by rw[hw6];exact(Ext.refl _).alloc _
 have HA6:=zh (show Blk w6 w5.heap.size 372 (asV s (.slice Ac L cc) q (.slice Am M cm) (.slice Ap ns.length cp) acN) by rw[hw6];exact Blk.new w5 _ _)
 rw[←hw6]
 obtain⟨na,hna⟩:=zm (w5.heap.size)
 rw[hna] at HA6 hs5⊢
 have B26:=zh (B25.out.ext E56)
 have B36:=zh (B35.out.ext E56)
 have P6:=zh (P5.out.ext E56)
 have E06:=zh (E05.out.trans E56)
 have OV6:=zh (OV5.out.ext E56)
 have HM6:=zh (HM5.out.ext E56)
 have E36:=E35.trans E56
 have hWz6:=E36.size
 have hnar:nr<na:=by rw[←hna];exact P5.out.lt
 have q0:w6.cell? ⟨nr,0,none⟩=some (.int .i64 (k:Int)):=Zak P6.out (by rw[←hqk];rfl)
 have hlr:=P6.out.lt
 clear hw6 E56 hna B15 B25 B35 P5 E05 OV5 HM5 hbu E35 E36
 have HKI:=zh (fun w'=>Zjk w')
 have HEX:=zh (fun w' (E:Ext w6 w')=>ZrI (A:=A) (A2:=fun j=>w3.heap.size≤j) W1.heap.size na s q (.slice Ac L cc) (.slice Am M cm) (.slice Ap ns.length cp) ns k w' HS.out (HA6.out.ext E) (OV6.out.ext E) (by have:=E.size;omega) (HP.out.ext (E06.out.trans E)) (HM6.out.ext E) HQB.out HQT.out)
 unfold KdP at HEX
 have hr1:=OV6.out.row
 have HRW:=zh hr1
 obtain⟨res,hres⟩:=zm (ZfM ns s q k)
 have HROK:=zh (show res.1.Ok from by rw[←hres];exact ZfJ HS.out HQB.out k)
 have HRES:=zh hres
 rw[hres] at HEX
 generalize Value.agg (rqA q (.slice Am M cm))=z2
 generalize Value.agg (sesV s (.slice Ac L cc))=z3
 generalize Value.agg (asV s (.slice Ac L cc) q (.slice Am M cm) (.slice Ap ns.length cp) acN)=z4
 clear hres hr1
 have hnV:∀j,(Value.slice Ac L cc).ownBlock=some j→n0+1+1<j:=fun j hj=>by have:=(HRW.out j hj).1;omega
 have hnV2:(Value.slice Ac L cc).ownBlock≠some nr:=Zai OV6.out P6.out (by decide)
 refine zg (fun w'=>Kb.Mod (fun k=>k=na∨(Value.slice Ac L cc).ownBlock=some k) w6 w') (Mod.of_ext (Ext.drew (Ext.refl _))) fun hHeld=>?_
 obtain⟨D,hD⟩:=zn (w6.drew)
 have ED:Ext w6 D:=by rw[hD];exact(Ext.refl _).drew
 rw[←hD] at hHeld⊢
 clear hD
 have hnrna:¬(nr=na∨(Value.slice Ac L cc).ownBlock=some nr):=fun h9=>h9.elim (by omega) hnV2
 refine zr 1 ?_
 (refine zu 2 (fun _ h=>(h.cell nr 0 hlr hnrna).trans q0) ?_)
 refine zr 4 ?_
 (refine zc 0 (HKI.out D) ?_;rintro e w7 ⟨rfl,E7⟩ K hK;refine zo hK (Mod.of_ext (ED.trans E7)) fun hHeld=>?_;clear hK K)
 have hix:=HIX.out
 (refine zu 3 (fun w' h=>hix w') ?_)
 refine zw 5 fun K hK=>?_
 go_simp
 refine(HEX.out _ (ED.trans E7)).mono ?_
 rintro e w8 ⟨rfl,ev',B8,OV8,M8⟩
 (try dsimp only)
 have M68:=(Mod.of_ext (ED.trans E7)).trans M8
 refine zo hK M68 fun hHeld=>?_
 clear hK K
 refine zd ?_
 have hN:=HN0.out
 have B28:=zh (B26.out.mod M68 (fun h9=>h9.elim (by omega) (fun h9=>by have:=hnV _ h9;omega)))
 have B38:=zh (B36.out.mod M68 (fun h9=>h9.elim (by omega) (fun h9=>by have:=hnV _ h9;omega)))
 have E08:=zh (Mod.toExt E06.out M68 (fun k hk he=>he.elim (by omega) (fun h9=>by have:=hnV _ h9;omega)))
 have hB:=zh B8
 have hOV:=zh OV8
 have hnl:=hB.out.lt
 clear B8 M8 M68 HEX HKI hix E7 ED hHeld B26 B36 P6 q0 HA6 E06 OV8 HIX HEN
 have hn12:¬(na=n0+1∨na=n0+1+1):=by omega
 have hLP1:∀w',Kb.Mod (fun k=>k=n0+1∨k=n0+1+1) w8 w'→w'.rangeAt na 0 (sesC res.1 ev'):=fun w' hSw i u hu=>by
  rw[hSw.cell na _ hnl hn12]
  exact Zak hB.out (Zqk hu)
 have hLP2:∀w',Kb.Mod (fun k=>k=n0+1∨k=n0+1+1) w8 w'→w'.rangeAt na 44 (acC res.2):=fun w' hSw i u hu=>by
  rw[hSw.cell na _ hnl hn12]
  exact Zak hB.out (ZrH HROK.out.t hu)
 go_upto_region 7 with fail
 refine zg (fun w'=>Kb.Mod (fun k=>k=n0+1∨k=n0+1+1) w8 w') (Mod.of_ext (Ext.drew (Ext.refl _))) fun hHeld=>?_
 obtain⟨D,hD⟩:=zn (w8.drew)
 have ED:Ext w8 D:=by rw[hD];exact(Ext.refl _).drew
 rw[←hD] at hHeld⊢
 clear hD
 refine zr 0 ?_
 refine zr 1 ?_
 refine zr 2 ?_
 (refine zU 3 rfl (yieldsIf_load_mid (by rfl) 309 _ rfl _ _ rfl (sesC res.1 ev') _ (fun w' hSw=>(hLP1 w' hSw)) Tryz.underlying309 rfl (hiSL _ _ HROK.out.t)) ?_)
 refine zr 4 ?_
 refine zr 5 ?_
 refine zr 6 ?_
 (refine zU 7 rfl (yieldsIf_load_mid (by rfl) 321 _ rfl _ _ rfl (acC res.2) _ (fun w' hSw=>(hLP2 w' hSw)) Tryz.underlying321 rfl hiA) ?_)
 obtain⟨Ae',ce',hev',-,-⟩:=hOV.out.shape
 have hone:(sesV res.1 ev').all (·.oneCell')=true:=sesC_one _ _ (by rw[hev'];rfl)
 have hone2:(acV res.2).all (·.oneCell')=true:=by simp[acC,Value.oneCell']
 have B29:=zh (B28.out.ext ED)
 have B39:=zh (B38.out.ext ED)
 (refine zw 8 fun K hK=>?_;rw[if_pos (by rfl)];refine Zag 309 _ _ rfl (n0+1) _ rfl rfl 309 _ B29.out (hiSA _ _ HROK.out.t) (by show ses0.length=(sesC res.1 ev').length;rw[sesC_len HROK.out.t];rfl) hone ?_;intro u4 B4 M4;refine zo hK ((Mod.of_ext ED).trans (M4.mono (fun k _ h=>Or.inl h))) fun hHeld=>?_;clear hK K)
 have M84:=zh hHeld
 have B34:=zh (B39.out.mod M4 (by omega))
 (refine zw 9 fun K hK=>?_;rw[if_pos (by rfl)];refine Zag 321 _ _ rfl (n0+1+1) _ rfl rfl 321 _ B34.out hiA (by rfl) hone2 ?_;intro u5 B5 M5;refine zo hK (M84.out.trans (M5.mono (fun k _ h=>Or.inr h))) fun hHeld=>?_;clear hK K)
 have B45:=zh (B4.mod M5 (by omega))
 refine zd ?_
 have hOV5:=zh (hOV.out.mod hHeld (fun k hk he=>by have:=(hOV.out.row k hk).1;omega) (fun k _ hk=>hk.elim))
 have E01:=zh E1
 go_wp2_with fail
 refine bodyPost_ret_by (Zad Tryz.results224 _ _ (n0+1) (n0+1+1) 309 321 _ _ _ _ _ _ rfl rfl B45.out B5 Tryz.underlying309 rfl (hiSA _ _ HROK.out.t) Tryz.underlying321 rfl hiA) rfl ?_
 rw[HRES.out]
 exact⟨ev',rfl,hOV5.out.lower (by have:=E01.out.size;omega),Mod.toExt E08.out hHeld (fun k hk he=>by omega)⟩
theorem ZrK {s:Sn}{ev:Value}:(sesC s ev)[0]?=some (.bool s.pty):=rfl
theorem ZrL {s:Sn}{ev:Value}{i:Nat}{u:Value}(h: [Value.int .u32 s.z1,.int .u32 s.z2,.int .u32 s.z3,.int .u32 s.z4][i]?=some u):(sesC s ev)[2+i]?=some u:=by
 rcases i with _|_|_|_|i
 ·exact h
 ·exact h
 ·exact h
 ·exact h
 ·simp at h
theorem ZrM {s:Sn}{ev:Value}{i:Nat}{u:Value}(h:s.t.cells[i]?=some u):(sesC s ev)[6+i]?=some u:=by
 have h6:(Zcc s).length=6:=rfl
 rw[sesC,List.getElem?_append_right (by omega),h6,show 6+i - 6=i by omega,List.getElem?_append_left (List.getElem?_eq_some_iff.1 h).1]
 exact h
def ZhJ (kb base b:Nat)(pp:Value)(x:Ln)(s:Sn)(prog:Int)(w:World)(e:Ending)(w':World):Prop:=
 e= .returned (.bool true)∧(∃tt,(tt.isSome=s.pty)∧KrO kb base w' pp (newP 1 prog) tt ⟨s.z1,s.z2,s.z3,s.z4⟩)∧Blk w' b 311 (lnL {x with kid:=1}).toArray∧Mod (fun k=>k=b∨k=kb) w w'
theorem Zlx (g kb base b:Nat)(pv fv bd cv lm dd lv lf sv:Value)(x:Ln)(s:Sn)(ev:Value)(Ap:Option Addr)(np cp prog:Nat)(w:World)
 (hg:Blk w g 143 (ZbA pv fv bd cv lm dd (.pointer (some ⟨kb,0,none⟩)) lv lf sv)) (hx:Blk w b 311 (lnL x).toArray) (hxs:x.sc=sesC s ev) (ht:s.t.Ok) (hr:s.pty=true→Md.rightL s.t=true)
 (hkb:base≤kb) (HB:Blk w kb 218 (Zrv (.slice Ap np cp))) (hp:prog<np):
 Calls Tryz.prog 225 #[.pointer (some ⟨g,0,none⟩),.pointer (some ⟨b,0,none⟩),.int .i64 prog] w (ZhJ kb base b (.slice Ap np cp) x s prog w):=by
 have hsc:x.sc.length=32:=by rw[hxs];exact sesC_len ht ev
 have HX:=zh hx
 have HSC:=zh hsc
 have HKB:=zh HB
 have HG:=zh hg
 have k6:=hg.cell 6
 have x1:=hx.cell 1
 simp only[zG] at k6
 rw[List.getElem?_toArray,Zss (by rw[hxs];exact ZrK)] at x1
 have hzz:∀ (i:Nat) (u:Value),[Value.int .u32 s.z1,.int .u32 s.z2,.int .u32 s.z3,.int .u32 s.z4][i]?=some u→w.cell? ⟨b,1+(2+i),none⟩=some u:=fun i u h=>(hx.cell (1+(2+i))).trans (by rw[List.getElem?_toArray];exact Zfx (x:=x) (by rw[hxs];exact ZrL h))
 have htt:∀ (i:Nat) (u:Value),s.t.cells[i]?=some u→w.cell? ⟨b,1+(6+i),none⟩=some u:=fun i u h=>(hx.cell (1+(6+i))).trans (by rw[List.getElem?_toArray];exact Zfx (x:=x) (by rw[hxs];exact ZrM h))
 have HZZ:=zh hzz
 have HTT:=zh htt
 unfold ZhJ
 by_cases hpt:s.pty=true
 ·rw[hpt] at x1
  have HOP:=zh (fun w' (E:Ext w w')=>Zht kb base Ap np cp prog s.t ⟨s.z1,s.z2,s.z3,s.z4⟩ w' hkb (HB.ext E) hp ht (hr hpt))
  unfold Ze4 at HOP
  have HPT:=zh hpt
  have hi24:(Tryz.prog.info? 39).map (·.size)=some s.t.cells.length:=by rw[Md.Tm.len ht];kernel_rfl
  have hiZ:=zi Tryz.prog 35 4
  have hgk:¬(g=kb∨g=b):=fun he=>he.elim (fun he=>Zap hg HB (by decide) he) (fun he=>Zap hg hx (by decide) he)
  have hgl:=hg.lt
  have hbl:=hx.lt
  have hbk:¬b=kb:=fun he=>Zap hx HB (by decide) he
  have h33:=hx.cell 33
  have f33:=hx.frozen 33
  rw[List.getElem?_toArray,Zgf hsc] at h33
  clear hg hx hxs hpt HB hp hr hsc hzz htt
  go_enter Tryz.func225,Tryz.ntmps225
  go_upto_region 3 with fail
  refine zg (fun w'=>Mod (fun k=>k=kb∨k=b) w w'∧∀i,i≠33→w'.cell? ⟨b,i,none⟩=w.cell? ⟨b,i,none⟩) (⟨Mod.of_ext (Ext.drew (Ext.refl _)),fun i hi=>rfl⟩) fun hHeld=>?_
  obtain⟨D,hD⟩:=zn (w.drew)
  have ED:Ext w D:=by rw[hD];exact(Ext.refl _).drew
  rw[←hD] at hHeld⊢
  clear hD
  refine zr 0 ?_
  refine zr 1 ?_
  refine zr 2 ?_
  refine zr 3 ?_
  (refine zu 4 (fun _ h=>(h.1.cell g 6 hgl hgk).trans k6) ?_)
  refine zr 5 ?_
  refine zr 6 ?_
  refine zr 7 ?_
  refine zr 8 ?_
  refine zr 9 ?_
  (refine zU 10 rfl (yieldsIf_load_mid (by rfl) 39 _ rfl _ _ rfl s.t.cells _ (fun w' hSw=>(fun i u hu=>(hSw.2 _ (by have:=(List.getElem?_eq_some_iff.1 hu).1;have:=Md.Tm.len ht;omega)).trans (by have h9:=HTT.out i u hu;rwa [show 1+(6+i)=7+i by omega] at h9))) Tryz.underlying39 rfl hi24) ?_)
  refine zr 11 ?_
  refine zr 12 ?_
  refine zr 13 ?_
  refine zr 14 ?_
  (refine zU 15 rfl (yieldsIf_load_mid (by rfl) 35 _ rfl _ _ rfl [Value.int .u32 s.z1,.int .u32 s.z2,.int .u32 s.z3,.int .u32 s.z4] _ (fun w' hSw=>(fun i u hu=>(hSw.2 _ (by have:=(List.getElem?_eq_some_iff.1 hu).1;simp at this;omega)).trans (by have h9:=HZZ.out i u hu;rwa [show 1+(2+i)=3+i by omega] at h9))) Tryz.underlying35 rfl hiZ) ?_)
  refine zc 16 ((HOP.out D ED)) ?_
  rintro e w3 ⟨rfl,HK3,M3⟩ K hK
  have M03:=zh (show Mod (fun k=>k=kb) w w3 from(Mod.of_ext ED).trans M3)
  refine zo hK ⟨M03.out.mono (fun k _ hk=>.inl hk),fun i hi=>M03.out.cell b i hbl hbk⟩ fun hHeld=>?_
  clear hK K
  refine zr 17 ?_
  refine zr 18 ?_
  refine zr 19 ?_
  refine zr 20 ?_
  refine zr 21 ?_
  have HX3:=zh (HX.out.mod M03.out hbk)
  have HK3:=zh HK3
  have x33:=HX3.out.cell 33
  have f33:=HX3.out.frozen 33
  rw[List.getElem?_toArray,Zgf HSC.out] at x33
  have M34:Mod (fun k=>k=b) w3 (w3.setCell ⟨b,33,none⟩ (.int .i64 1)):=(Mod.refl _ _).set1 _
  refine zw 22 fun K hK=>?_
  go_simp
  refine hK.out _ _ ⟨(M03.out.mono (fun k _ hk=>.inl hk)).trans (M34.mono (fun k _ hk=>.inr hk)),fun i hi=>?_⟩ (fun hHeld=>?_)
  ·have h9:=HX3.out.set_ 33 (.int .i64 1)
   rw[h9.cell,← (M03.out.cell b i hbl hbk),HX3.out.cell,Array.getElem?_setIfInBounds_ne (by omega)]
  clear hK K
  (try simp only[zP])
  have HX4:=zh (show Blk (w3.setCell ⟨b,33,none⟩ (.int .i64 1)) b 311 (lnL {x with kid:=1}).toArray by
   have h9:=HX3.out.set_ 33 (.int .i64 1)
   rw[Zkv HSC.out] at h9
   exact h9)
  have M04:=zh (show Mod (fun k=>k=b∨k=kb) w (w3.setCell ⟨b,33,none⟩ (.int .i64 1)) from(M03.out.mono (fun k _ hk=>.inr hk)).trans (M34.mono (fun k _ hk=>.inl hk)))
  have HK4:=zh (show ∃tt,(tt.isSome=true)∧KrO kb base (w3.setCell ⟨b,33,none⟩ (.int .i64 1)) (.slice Ap np cp) (newP 1 prog) tt ⟨s.z1,s.z2,s.z3,s.z4⟩ by
   obtain⟨tt,h1,h2⟩:=HK3.out
   exact⟨tt,h1,h2.of_mod M34 (fun k ⟨cs,t,fr,h3,h4⟩ he=>by
    have h9:w3.heap[b]?=some (.cells (lnL x).toArray 311 (0,0)):=HX3.out
    rw[he,h9] at h3
    simp at h3
    rw[←h3.2.1] at h4
    revert h4
    decide)⟩)
  clear M34 HX3 HK3 M03 x33 f33 M3
  generalize w3.setCell ⟨b,33,none⟩ (.int .i64 1)=w4 at*
  refine zr 23 ?_
  refine zd ?_
  go_wp2
  go_ret
  exact⟨rfl,by rw[HPT.out];exact HK4.out,HX4.out,M04.out⟩
 ·have hpf:s.pty=false:=by simpa using hpt
  rw[hpf] at x1
  have HOP:=zh (Zgz kb base Ap np cp prog ⟨s.z1,s.z2,s.z3,s.z4⟩ w hkb HB hp)
  unfold Ze4 at HOP
  have HPT:=zh hpf
  have hbk:¬b=kb:=fun he=>Zap hx HB (by decide) he
  clear hg hx hxs hpt hpf HB hp hr hsc hzz htt HZZ HTT
  go_enter Tryz.func225,Tryz.ntmps225
  go_wp2_with fail
  refine(HOP.out).mono ?_
  rintro e w3 ⟨rfl,HK3,M3⟩
  have HX3:=zh (HX.out.mod M3 hbk)
  have x33:=HX3.out.cell 33
  have f33:=HX3.out.frozen 33
  rw[List.getElem?_toArray,Zgf HSC.out] at x33
  have HK3:=zh HK3
  have M3:=zh M3
  clear HOP
  go_wp2
  go_ret
  have M34:Mod (fun k=>k=b) w3 (w3.setCell ⟨b,33,none⟩ (.int .i64 1)):=(Mod.refl _ _).set1 _
  have h9:=HX3.out.set_ 33 (.int .i64 1)
  rw[Zkv HSC.out] at h9
  refine⟨rfl,?_,h9,(M3.out.mono (fun k _ hk=>.inr hk)).trans (M34.mono (fun k _ hk=>.inl hk))⟩
  rw[HPT.out]
  obtain⟨tt,h1,h2⟩:=HK3.out
  exact⟨tt,h1,h2.of_mod M34 (fun k ⟨cs,t,fr,h3,h4⟩ he=>by
   have h9:w3.heap[b]?=some (.cells (lnL x).toArray 311 (0,0)):=HX3.out
   rw[he,h9] at h3
   simp at h3
   rw[←h3.2.1] at h4
   revert h4
   decide)⟩
theorem ZhK (ns:List ByteArray)(x:ByteArray):fndP ns x<ns.length:=by
 by_cases h:∃c∈ns,(fun d:ByteArray=>d.toList==x.toList) c=true
 ·obtain⟨m,c,h1,h2,-⟩:=ZdN h
  have h3:=(List.getElem?_eq_some_iff.1 h2).1
  show Zdq _ ns<_
  rw[h1]
  omega
 ·have h1:Zdq (fun d:ByteArray=>d.toList==x.toList) ns= -1:=ZaD (fun p hp=>by
   cases h9:(p.toList==x.toList) with
   |false=>rfl
   |true=>exact absurd ⟨p,hp,h9⟩ h)
  show Zdq _ ns<_
  rw[h1]
  omega
structure SwT where
 cs:List Ch
 ls:List Ln
 said:List Int
 dead:Bool
 K:World→Prop
abbrev Zly:List TypeId:=[143,218,327,276,311,272,382]
abbrev swK:List TypeId:=[218,327,276,382]
abbrev swS:List TypeId:=[143,5,311,272]
structure SwW (g kb base:Nat)(ns:List ByteArray)(S:SwT)(sb:Option Nat)(w:World)(pv fv cv lv sv:Value)(bs:List Nat):Prop where
 hb:base≤w.heap.size
 hbg:base≤g
 blk:Blk w g 143 (ZbA pv fv (.bool false) cv lm4 (.bool S.dead) (.pointer (some ⟨kb,0,none⟩)) lv (.slice none 0 0) sv)
 em:Emp fv
 pg:OwnS PgR 101 base (fun _=>False) w pv ns
 ch:OwnS ChR 156 base (fun _=>False) w cv S.cs
 ln:OwnS Zcn 272 base (fun _=>False) w lv bs
 la:LnsAt w bs S.ls
 nd:bs.Nodup
 bb:∀b∈bs,base≤b
 sd:OwnS Ub8 5 base (fun _=>False) w sv S.said
 sb:sv.ownBlock=sb
 kr:S.K w
 ks:∀w w',S.K w→ZaR swS base w w'→S.K w'
def Zdy (g kb base:Nat)(ns:List ByteArray)(S:SwT)(sb:Option Nat)(w:World):Prop:=∃pv fv cv lv sv bs,SwW g kb base ns S sb w pv fv cv lv sv bs
def SwM (base:Nat)(sb:Option Nat)(w w':World):Prop:=Mod (fun k=>ZaT Zly base w k∨sb=some k) w w'
def ZgJ (g kb base:Nat)(ns:List ByteArray)(Q:SwT→Prop)(sb:Option Nat)(w w':World):Prop:=∃S sb',Q S∧Zdy g kb base ns S sb' w'∧(∀k,sb'=some k→sb=some k∨w.heap.size≤k)∧SwM base sb w w'
theorem SwM.of_ext {base:Nat}{sb:Option Nat}{w w':World}(E:Ext w w'):SwM base sb w w':=Mod.of_ext E
theorem SwM.trans {base:Nat}{sb sb1:Option Nat}{w w1 w2:World}(h:SwM base sb w w1)(hs:∀k,sb1=some k→sb=some k∨w.heap.size≤k)(h2:SwM base sb1 w1 w2):SwM base sb w w2:=
 Mod.transN h h2 (fun i hi hT=>by
  by_cases hA:ZaT Zly base w i∨sb=some i
  ·exact hA
  ·rcases hT with⟨h1,cs,t,fr,h3,h4⟩|h1
   ·rw[h.block i hi hA] at h3
    exact .inl ⟨h1,cs,t,fr,h3,h4⟩
   ·rcases hs i h1 with h2|h2
    ·exact .inr h2
    ·omega)
theorem ZgJ.trans {g kb base:Nat}{ns:List ByteArray}{Q:SwT→Prop}{sb sb1:Option Nat}{w w1 w2:World}(h:SwM base sb w w1)(hs:∀k,sb1=some k→sb=some k∨w.heap.size≤k)(h2:ZgJ g kb base ns Q sb1 w1 w2):ZgJ g kb base ns Q sb w w2:=by
 obtain⟨S,sb2,hq,h3,h4,h5⟩:=h2
 have hz:=h.size
 exact⟨S,sb2,hq,h3,fun k hk=>(h4 k hk).elim (hs k) (fun h9=>.inr (by omega)),h.trans hs h5⟩
theorem SwM.size {base:Nat}{sb:Option Nat}{w w':World}(h:SwM base sb w w'):w.heap.size≤w'.heap.size:=Mod.size h
section
variable {g kb base:Nat} {ns:List ByteArray} {S:SwT} {sb:Option Nat} {w w':World} {pv fv cv lv sv:Value} {bs:List Nat}
theorem SwW.ext (h:SwW g kb base ns S sb w pv fv cv lv sv bs)(E:Ext w w'):SwW g kb base ns S sb w' pv fv cv lv sv bs:=
 ⟨Nat.le_trans h.hb E.size,h.hbg,h.blk.ext E,h.em,h.pg.ext E,h.ch.ext E,h.ln.ext E,h.la.ext E,h.nd,h.bb,h.sd.ext E,h.sb,h.ks _ _ h.kr (ZaR.of_ext E),h.ks⟩
theorem Zdy.ext (h:Zdy g kb base ns S sb w)(E:Ext w w'):Zdy g kb base ns S sb w':=by
 obtain⟨pv,fv,cv,lv,sv,bs,h⟩:=h
 exact⟨pv,fv,cv,lv,sv,bs,h.ext E⟩
theorem ZgJ.ext {Q:SwT→Prop}{w1 w2:World}(h:ZgJ g kb base ns Q sb w w1)(E:Ext w1 w2):ZgJ g kb base ns Q sb w w2:=by
 obtain⟨S,sb',hq,h1,h2,h3⟩:=h
 exact⟨S,sb',hq,h1.ext E,h2,Mod.ext h3 E⟩
theorem SwW.kern {K2:World→Prop}(h:SwW g kb base ns S sb w pv fv cv lv sv bs)(M:ZaR swK base w w')(hK:K2 w')(hs:∀w w',K2 w→ZaR swS base w w'→K2 w'):SwW g kb base ns {S with K:=K2} sb w' pv fv cv lv sv bs:=
 ⟨Nat.le_trans h.hb M.size,h.hbg,h.blk.modT M (by decide),h.em,h.pg.modT M (by decide),h.ch.modT M (by decide),h.ln.modT M (by decide),h.la.modT M (by decide),h.nd,h.bb,h.sd.modT M (by decide),h.sb,hK,hs⟩
theorem SwM.kern (M:ZaR swK base w w'):SwM base sb w w':=Mod.mono M (fun k _ hk=>.inl (hk.mono (by decide) (Nat.le_refl _)))
theorem SwW.line {j b:Nat}{x y:Ln}(h:SwW g kb base ns S sb w pv fv cv lv sv bs)(hx:S.ls[j]?=some x)(hb:bs[j]?=some b)(M:Mod (fun k=>k=b) w w')(hB:Blk w' b 311 (lnL y).toArray)(hlo:y.lo=x.lo)(hsc:y.sc.length=32):
 SwW g kb base ns {S with ls:=S.ls.set j y} sb w' pv fv cv lv sv bs:=by
 have hold:=h.la.blk j b x hb hx
 have hbb:=h.bb b (List.mem_of_getElem? hb)
 have MT:ZaR [311] base w w':=ZaR.of_mod M (fun k _ hk=>by rw[hk];exact hold.ty (by decide) hbb)
 exact⟨Nat.le_trans h.hb M.size,h.hbg,h.blk.modT MT (by decide),h.em,h.pg.modT MT (by decide),h.ch.modT MT (by decide),h.ln.modT MT (by decide),h.la.set h.nd hx hb hB hlo hsc (fun b' hb' hne=>M.block b' (by
  obtain⟨x',-,hB'⟩:=h.la.blkOf hb'
  exact hB'.lt) hne),h.nd,h.bb,h.sd.modT MT (by decide),h.sb,h.ks _ _ h.kr (MT.mono (by decide) (Nat.le_refl _)),h.ks⟩
theorem SwM.line {j b:Nat}{x:Ln}(h:SwW g kb base ns S sb w pv fv cv lv sv bs)(hx:S.ls[j]?=some x)(hb:bs[j]?=some b)(M:Mod (fun k=>k=b) w w'):SwM base sb w w':=
 Mod.mono M (fun k _ hk=>.inl (by rw[hk];exact(h.la.blk j b x hb hx).ty (by decide) (h.bb b (List.mem_of_getElem? hb))))
theorem SwW.say {cv' sv':Value}{cs':List Ch}{l:List Int}{b2:Nat}(h:SwW g kb base ns S sb w pv fv cv lv sv bs)(hb2:base≤b2)(M:Mod (fun k=>k=g∨sv.ownBlock=some k) w w')(hB:Blk w' g 143 (ZbA pv fv (.bool false) cv' lm4 (.bool S.dead) (.pointer (some ⟨kb,0,none⟩)) lv (.slice none 0 0) sv'))
 (hC:OwnS ChR 156 b2 (fun _=>False) w' cv' cs') (hs:OwnS Ub8 5 base (fun _=>False) w' sv' l):
 SwW g kb base ns {S with cs:=cs',said:=l} sv'.ownBlock w' pv fv cv' lv sv' bs:=by
 have MT:ZaR [143,5] base w w':=ZaR.of_mod M (fun k _ hk=>by
  rcases hk with hk|hk
  ·rw[hk];exact h.blk.ty (by decide) h.hbg
  ·exact h.sd.ty hk (by decide) (Nat.le_refl _))
 exact⟨Nat.le_trans h.hb M.size,h.hbg,hB,h.em,h.pg.modT MT (by decide),hC.lower hb2,h.ln.modT MT (by decide),h.la.modT MT (by decide),h.nd,h.bb,hs,rfl,h.ks _ _ h.kr (MT.mono (by decide) (Nat.le_refl _)),h.ks⟩
theorem SwM.say (h:SwW g kb base ns S sb w pv fv cv lv sv bs)(M:Mod (fun k=>k=g∨sv.ownBlock=some k) w w'):SwM base sb w w':=
 Mod.mono M (fun k _ hk=>hk.elim (fun hk=>.inl (by rw[hk];exact h.blk.ty (by decide) h.hbg)) (fun hk=>.inr (by rw[←h.sb];exact hk)))
theorem SwW.gT (h:SwW g kb base ns S sb w pv fv cv lv sv bs)(M:Mod (fun k=>k=g) w w'):ZaR [143] base w w':=ZaR.of_mod M (fun k _ hk=>by rw[hk];exact h.blk.ty (by decide) h.hbg)
theorem SwM.srv (h:SwW g kb base ns S sb w pv fv cv lv sv bs)(M:Mod (fun k=>k=g) w w'):SwM base sb w w':=Mod.mono M (fun k _ hk=>.inl (by rw[hk];exact h.blk.ty (by decide) h.hbg))
theorem SwW.mux {cv':Value}{cs':List Ch}{dd:Bool}{b2:Nat}(h:SwW g kb base ns S sb w pv fv cv lv sv bs)(hb2:base≤b2)(M:Mod (fun k=>k=g) w w')(hB:Blk w' g 143 (ZbA pv fv (.bool false) cv' lm4 (.bool dd) (.pointer (some ⟨kb,0,none⟩)) lv (.slice none 0 0) sv))
 (hC:OwnS ChR 156 b2 (fun _=>False) w' cv' cs'):SwW g kb base ns {S with cs:=cs',dead:=dd} sb w' pv fv cv' lv sv bs:=by
 have MT:=h.gT M
 exact⟨Nat.le_trans h.hb M.size,h.hbg,hB,h.em,h.pg.modT MT (by decide),hC.lower hb2,h.ln.modT MT (by decide),h.la.modT MT (by decide),h.nd,h.bb,h.sd.modT MT (by decide),h.sb,h.ks _ _ h.kr (MT.mono (by decide) (Nat.le_refl _)),h.ks⟩
theorem SwW.frm {fv':Value}(h:SwW g kb base ns S sb w pv fv cv lv sv bs)(M:Mod (fun k=>k=g) w w')(hB:Blk w' g 143 (ZbA pv fv' (.bool false) cv lm4 (.bool S.dead) (.pointer (some ⟨kb,0,none⟩)) lv (.slice none 0 0) sv))(he:Emp fv'):
 SwW g kb base ns S sb w' pv fv' cv lv sv bs:=by
 have MT:=h.gT M
 exact⟨Nat.le_trans h.hb M.size,h.hbg,hB,he,h.pg.modT MT (by decide),h.ch.modT MT (by decide),h.ln.modT MT (by decide),h.la.modT MT (by decide),h.nd,h.bb,h.sd.modT MT (by decide),h.sb,h.ks _ _ h.kr (MT.mono (by decide) (Nat.le_refl _)),h.ks⟩
theorem SwW.quiet (h:SwW g kb base ns S sb w pv fv cv lv sv bs)(M:Mod (fun k=>k=g) w w')(hB:Blk w' g 143 (ZbA pv fv (.bool false) cv lm4 (.bool S.dead) (.pointer (some ⟨kb,0,none⟩)) lv (.slice none 0 0) (.slice none 0 0))):
 SwW g kb base ns {S with said:=[]} none w' pv fv cv lv (.slice none 0 0) bs:=by
 have MT:=h.gT M
 exact⟨Nat.le_trans h.hb M.size,h.hbg,hB,h.em,h.pg.modT MT (by decide),h.ch.modT MT (by decide),h.ln.modT MT (by decide),h.la.modT MT (by decide),h.nd,h.bb,OwnS.nil _ _ _ _ _,rfl,h.ks _ _ h.kr (MT.mono (by decide) (Nat.le_refl _)),h.ks⟩
theorem SwW.opened {lv':Value}{b:Nat}{y:Ln}(h:SwW g kb base ns S sb w pv fv cv lv sv bs)(M:Mod (fun k=>k=g∨lv.ownBlock=some k) w w')(hB:Blk w' g 143 (ZbA pv fv (.bool false) cv lm4 (.bool S.dead) (.pointer (some ⟨kb,0,none⟩)) lv' (.slice none 0 0) sv))
 (hL:OwnS Zcn 272 base (fun _=>False) w' lv' (bs++ [b])) (hb:w.heap.size≤b) (hX:Blk w' b 311 (lnL y).toArray) (hlo:y.lo=(S.ls.length:Int)) (hsc:y.sc.length=32):
 SwW g kb base ns {S with ls:=S.ls++ [y]} sb w' pv fv cv lv' sv (bs++ [b]):=by
 have MT:ZaR [143,272] base w w':=ZaR.of_mod M (fun k _ hk=>by
  rcases hk with hk|hk
  ·rw[hk];exact h.blk.ty (by decide) h.hbg
  ·exact h.ln.ty hk (by decide) (Nat.le_refl _))
 have hbl:∀b'∈bs,b'<w.heap.size:=fun b' hb'=>by
  obtain⟨x',-,hB'⟩:=h.la.blkOf hb'
  exact hB'.lt
 exact⟨Nat.le_trans h.hb M.size,h.hbg,hB,h.em,h.pg.modT MT (by decide),h.ch.modT MT (by decide),hL,(h.la.modT MT (by decide)).snoc hX hlo hsc,by
  rw[List.nodup_append]
  refine⟨h.nd,by simp,fun a ha c hc=>?_⟩
  simp at hc
  have:=hbl a ha
  omega,fun b' hb'=>by
  have h9:=h.hb
  rcases List.mem_append.1 hb' with hb'|hb'
  ·exact h.bb b' hb'
  ·simp at hb';omega,h.sd.modT MT (by decide),h.sb,h.ks _ _ h.kr (MT.mono (by decide) (Nat.le_refl _)),h.ks⟩
theorem SwM.opened (h:SwW g kb base ns S sb w pv fv cv lv sv bs)(M:Mod (fun k=>k=g∨lv.ownBlock=some k) w w'):SwM base sb w w':=
 Mod.mono M (fun k _ hk=>.inl (hk.elim (fun hk=>by rw[hk];exact h.blk.ty (by decide) h.hbg) (fun hk=>h.ln.ty hk (by decide) (Nat.le_refl _))))
theorem SwW.sT (h:SwW g kb base ns S sb w pv fv cv lv sv bs)(M:Mod (fun k=>k=g∨sv.ownBlock=some k) w w'):ZaR [143,5] base w w':=
 ZaR.of_mod M (fun k _ hk=>by
  rcases hk with hk|hk
  ·rw[hk];exact h.blk.ty (by decide) h.hbg
  ·exact h.sd.ty hk (by decide) (Nat.le_refl _))
end
theorem ZhL (g kb base:Nat)(v:Value)(ns:List ByteArray)(S:SwT)(sb:Option Nat)(x:Ev)(w:World)(hS:Zdy g kb base ns S sb w)(hn:S.ls.length≤100)(hch:x.ch=(S.ls.length:Int)):
 Calls Tryz.prog 150 #[.pointer (some ⟨g,0,none⟩),.agg (evA x v)] w fun e w'=>e= .returned (.tuple #[])∧ZgJ g kb base ns (fun S2=>S2={S with ls:=S.ls++ [newL x]}) sb w w':=by
 obtain⟨pv,fv,cv,lv,sv,bs,h⟩:=hS
 refine(Zi6 g base pv fv (.bool false) cv lm4 (.bool S.dead) (.pointer (some ⟨kb,0,none⟩)) lv (.slice none 0 0) sv v bs x w h.blk h.ln h.hb (by rw[h.la.len];omega)).mono ?_
 rintro e w' ⟨rfl,lv',b,hb,X,B,L,own,M⟩
 exact⟨rfl,_,sb,rfl,⟨pv,fv,cv,lv',sv,bs++ [b],h.opened M B L hb X hch rfl⟩,fun k hk=>.inl hk,SwM.opened h M⟩
structure SnR (s:Sn):Prop where
 ok:s.Ok
 z:(Sz.mk s.z1 s.z2 s.z3 s.z4).Ok
 rt:s.pty=true→Md.rightL s.t=true
theorem ZrN:SnR sn0:=⟨ZrE,⟨by unfold ZbG;decide,by unfold ZbG;decide,by unfold ZbG;decide,by unfold ZbG;decide⟩,fun h=>by cases h⟩
structure RqZ (r:Rq):Prop where
 mo:Bs r.mo
 c1:ZbG r.c1
 c2:ZbG r.c2
 c3:ZbG r.c3
 c4:ZbG r.c4
theorem Ziw {r:Rq}(h:r.Ok)(k:Nat):RqZ (ownQ r k):=by
 have hb0:Bs ([]:List Int):=fun x hx=>by simp at hx
 have h0:ZbG 0:=⟨by decide,by decide⟩
 have e:RqZ (ownQ r 1):=⟨h.bs,h.c1,h.c2,h.c3,h.c4⟩
 have e0:∀k tx vl la on co,RqZ ⟨k,tx,vl,la,0,0,0,0,[],on,co⟩:=fun _ _ _ _ _ _=>⟨hb0,h0,h0,h0,h0⟩
 unfold ownQ
 split
 ·exact e
 ·exact e0 _ _ _ _ _ _
 ·exact e0 _ _ _ _ _ _
 ·exact e0 _ _ _ _ _ _
 ·exact⟨hb0,h.c1,h.c2,h.c3,h.c4⟩
 ·exact e0 _ _ _ _ _ _
 ·exact e0 _ _ _ _ _ _
 ·exact e0 _ _ _ _ _ _
 ·exact e0 _ _ _ _ _ _
 ·exact e0 _ _ _ _ _ _
theorem ZjH {ns:List ByteArray}{s:Sn}{i:Int}(hi:i<ns.length):(begN s i=(s,acN))∨(s.st=false∧∃n:Nat,n<ns.length∧begN s i=({s with st:=true},⟨true,1,n,0,0,0,0,0⟩)):=by
 unfold begN
 split
 ·rename_i h
  obtain⟨n,rfl⟩:=Int.eq_ofNat_of_zero_le h.2
  exact .inr ⟨h.1,n,by omega,rfl⟩
 ·exact .inl rfl
inductive AskC (ns:List ByteArray) (s:Sn) (r:Rq):Sn×Ac→Prop
 |quiet (s2:Sn) (a:Ac) (hd:a.d=0) (h1:s2.st=s.st) (h2:s.st=true→s2.pty=s.pty∧s2.z1=s.z1∧s2.z2=s.z2∧s2.z3=s.z3∧s2.z4=s.z4):AskC ns s r (s2,a)
 |start (n:Nat) (hn:n<ns.length) (h1:s.st=false):AskC ns s r ({s with st:=true},⟨true,1,n,0,0,0,0,0⟩)
 |size (h1:s.st=true) (h2:s.pty=true):AskC ns s r (s.size r,⟨true,2,0,0,r.c1,r.c2,r.c3,r.c4⟩)
 |sig (g:Int) (h1:s.st=true) (h2:Sg.wireL g=true):AskC ns s r (s,⟨true,3,0,g,0,0,0,0⟩)
theorem AskC.none {ns:List ByteArray}{s:Sn}{r:Rq}:AskC ns s r (s,acN):=.quiet s acN rfl rfl (fun _=>⟨rfl,rfl,rfl,rfl,rfl⟩)
theorem AskC.beg {ns:List ByteArray}{s:Sn}{r:Rq}{i:Int}(hi:i<ns.length):AskC ns s r (begN s i):=by
 rcases ZjH (s:=s) hi with h|⟨h1,n,hn,h⟩
 ·rw[h];exact .none
 ·rw[h];exact .start n hn h1
theorem ZrO (ns:List ByteArray)(s:Sn)(r:Rq)(k:Nat):AskC ns s r (ZfM ns s r k):=by
 unfold ZfM
 split
 ·unfold Zcy
  split
  ·exact .none
  ·split
   ·exact .none
   ·rename_i h1 h2
    split
    ·exact .none
    ·split
     ·exact .quiet _ acY rfl rfl (fun h=>absurd h h2)
     ·exact .none
 ·unfold ZcG
  split
  ·exact .none
  ·rename_i h2
   split
   ·exact .quiet _ acY rfl rfl (fun h=>absurd h h2)
   ·split
    ·exact .none
    ·exact .quiet _ acY rfl rfl (fun h=>absurd h h2)
 ·exact .beg (ZhK ns _)
 ·exact .beg (ZhK ns _)
 ·exact .beg (ZhK ns _)
 ·unfold ZbF
  split
  ·rename_i h1
   by_cases h2:s.st=true
   ·rw[if_pos h2];exact .size h2 h1
   ·rw[if_neg h2];exact .quiet _ acY rfl rfl (fun h=>absurd h h2)
  ·exact .none
 ·unfold ZgY
  split
  ·rename_i h1
   exact .sig _ h1.1 h1.2.2
  ·exact .none
 ·exact .none
theorem ZrP {ns:List ByteArray}{s:Sn}{r:Rq}(h:SnR s)(hz:RqZ r)(k:Nat):SnR (ZfM ns s r k).1:=by
 refine⟨ZfJ h.ok hz.mo k,?_,?_⟩
 ·have hz2:(Sz.mk r.c1 r.c2 r.c3 r.c4).Ok:=⟨hz.c1,hz.c2,hz.c3,hz.c4⟩
  unfold ZfM
  split
  ·unfold Zcy;repeat' split
   all_goals first|exact h.z|exact hz2
  ·unfold ZcG;repeat' split
   all_goals exact h.z
  ·unfold begN;split<;>exact h.z
  ·unfold begN;split<;>exact h.z
  ·unfold begN;split<;>exact h.z
  ·unfold ZbF;split
   ·exact hz2
   ·exact h.z
  ·unfold ZgY;split<;>exact h.z
  ·exact h.z
 ·unfold ZfM
  split
  ·unfold Zcy
   split
   ·exact h.rt
   ·split
    ·exact h.rt
    ·split
     ·exact h.rt
     ·split
      ·rename_i h9
       exact fun _=>h9
      ·exact h.rt
  ·unfold ZcG;repeat' split
   all_goals exact h.rt
  ·unfold begN;split<;>exact h.rt
  ·unfold begN;split<;>exact h.rt
  ·unfold begN;split<;>exact h.rt
  ·unfold ZbF;split<;>exact h.rt
  ·unfold ZgY;split<;>exact h.rt
  ·exact h.rt
def KS (kb base:Nat)(kv:Value)(s:Sn)(ev:Value)(w:World):Prop:=
 base≤kb∧OwnS Zbc 367 base (fun _=>False) w ev s.env∧(s.st=false→Blk w kb 218 (Zrv kv))∧(s.st=true→∃tt,tt.isSome=s.pty∧KrS kb base w kv tt ⟨s.z1,s.z2,s.z3,s.z4⟩)
theorem KS.modT {kb base base2:Nat}{kv ev:Value}{s:Sn}{w w':World}{tys:List TypeId}(h:KS kb base kv s ev w)(M:ZaR tys base2 w w')(hv:367∉tys)(hd:∀t∈krTys,t∉tys):KS kb base kv s ev w':=
 ⟨h.1,h.2.1.modT M hv,fun h1=>(h.2.2.1 h1).modT M (hd _ (by simp)),fun h1=>by
  obtain⟨tt,h2,h3⟩:=h.2.2.2 h1
  exact⟨tt,h2,h3.modT M hd⟩⟩
theorem KS.ks {kb base:Nat}{kv ev:Value}{s:Sn}:∀w w',KS kb base kv s ev w→ZaR swS base w w'→KS kb base kv s ev w':=fun _ _ h M=>h.modT M (by decide) (by decide)
abbrev lnQ (s:Sn)(ev:Value):Ln:=⟨0,sesC s ev,if s.st then 1 else 0⟩
abbrev svQ (kb base:Nat)(kv:Value)(c:Ch)(s:Sn)(ev:Value)(said:List Int):SwT:=⟨[c],[lnQ s ev],said,false,KS kb base kv s ev⟩
theorem own_oc {D:Type}{e:Rep D}{T:TypeId}{base:Nat}{B:Nat→Prop}{w:World}{v:Value}{l:List D}(h:OwnS e T base B w v l):v.oneCell'=true:=by
 obtain⟨Ad,c,rfl,-,-⟩:=h.shape
 rfl
theorem ZhM (a:Ac):(acV a).all (·.oneCell')=true:=by
 unfold acV acC
 simp[Value.oneCell']
theorem KS.quiet {kb base:Nat}{kv ev ev2:Value}{s s2:Sn}{w:World}(h:KS kb base kv s ev w)(hv:OwnS Zbc 367 base (fun _=>False) w ev2 s2.env)(h1:s2.st=s.st)(h2:s.st=true→s2.pty=s.pty∧s2.z1=s.z1∧s2.z2=s.z2∧s2.z3=s.z3∧s2.z4=s.z4):KS kb base kv s2 ev2 w:=
 ⟨h.1,hv,fun h3=>h.2.2.1 (by rw[←h1];exact h3),fun h3=>by
  rw[h1] at h3
  obtain⟨e1,e2,e3,e4,e5⟩:=h2 h3
  rw[e1,e2,e3,e4,e5]
  exact h.2.2.2 h3⟩
abbrev eQ (k:Nat)(v:Value):Array Value:=#[.int .i64 5,.int .u32 0,.int .u32 0,.string (nmQ k),.bool true,v]
section
variable {g kb base:Nat} {ns:List ByteArray} {S:SwT} {sb:Option Nat} {w w':World} {pv fv cv lv sv:Value} {bs:List Nat}
theorem SwW.both {K2:World→Prop}{j b:Nat}{x y:Ln}(h:SwW g kb base ns S sb w pv fv cv lv sv bs)(hx:S.ls[j]?=some x)(hb:bs[j]?=some b)(M:Mod (fun k=>k=b∨ZaT swK base w k) w w')(hB:Blk w' b 311 (lnL y).toArray)(hlo:y.lo=x.lo)(hsc:y.sc.length=32)
 (hK:K2 w') (hs:∀w w',K2 w→ZaR swS base w w'→K2 w'):SwW g kb base ns {S with ls:=S.ls.set j y,K:=K2} sb w' pv fv cv lv sv bs:=by
 have hold:=h.la.blk j b x hb hx
 have hbb:=h.bb b (List.mem_of_getElem? hb)
 have MT:ZaR (311::swK) base w w':=ZaR.of_mod M (fun k _ hk=>hk.elim (fun hk=>by rw[hk];exact hold.ty (by decide) hbb) (fun hk=>hk.mono (by decide) (Nat.le_refl _)))
 exact⟨Nat.le_trans h.hb M.size,h.hbg,h.blk.modT MT (by decide),h.em,h.pg.modT MT (by decide),h.ch.modT MT (by decide),h.ln.modT MT (by decide),h.la.set h.nd hx hb hB hlo hsc (fun b' hb' hne=>by
  obtain⟨x',-,hB'⟩:=h.la.blkOf hb'
  exact M.block b' hB'.lt (fun hk=>hk.elim hne (hB'.nty (by decide)))),h.nd,h.bb,h.sd.modT MT (by decide),h.sb,hK,hs⟩
theorem SwM.both {j b:Nat}{x:Ln}(h:SwW g kb base ns S sb w pv fv cv lv sv bs)(hx:S.ls[j]?=some x)(hb:bs[j]?=some b)(M:Mod (fun k=>k=b∨ZaT swK base w k) w w'):SwM base sb w w':=
 Mod.mono M (fun k _ hk=>.inl (hk.elim (fun hk=>by rw[hk];exact(h.la.blk j b x hb hx).ty (by decide) (h.bb b (List.mem_of_getElem? hb))) (fun hk=>hk.mono (by decide) (Nat.le_refl _))))
theorem SwW.act {n:Nat}{t:TypeId}{cs:Array Value}(h:SwW g kb base ns S sb w pv fv cv lv sv bs)(M:Mod (fun k=>k=n) w w')(hB:Blk w n t cs)(hK:S.K w')
 (ht:t∉ [143,101,156,272,311,5]:=by decide):SwW g kb base ns S sb w' pv fv cv lv sv bs:=by
 simp only[List.mem_cons,not_or] at ht
 obtain⟨t1,t2,t3,t4,t5,t6,-⟩:=ht
 have MT:ZaR [t] 0 w w':=ZaR.of_mod M (fun k _ hk=>by rw[hk];exact hB.ty (by simp) (Nat.zero_le _))
 have hn:∀ {x:TypeId},t≠x→x∉ [t]:=fun h h9=>h (List.mem_singleton.1 h9).symm
 exact⟨Nat.le_trans h.hb M.size,h.hbg,h.blk.modT MT (hn t1),h.em,h.pg.modT MT (hn t2),h.ch.modT MT (hn t3),h.ln.modT MT (hn t4),h.la.modT MT (hn t5),h.nd,h.bb,h.sd.modT MT (hn t6),h.sb,hK,h.ks⟩
theorem SwM.act {n:Nat}{w1 w2:World}(h:SwM base sb w w1)(M:Mod (fun k=>k=n) w1 w2)(hn:w.heap.size≤n):SwM base sb w w2:=
 Mod.transN h M (fun i hi hk=>by omega)
end
theorem KrS.ty {kb base:Nat}{w:World}{kv:Value}{tt:Option Nat}{z:Sz}(h:KrS kb base w kv tt z){k:Nat}(hk:k=kb∨tt=some k):ZaT [218,382] base w k:=by
 obtain⟨p,-,hkb,At,ct,Tt,ctt,As,cs,tb,sb,i,o,r,HB,-,-,-,-,-,HTT⟩:=h
 rcases hk with rfl|hk
 ·exact HB.ty (by decide) hkb
 ·obtain⟨h1,d,sl,h2⟩:=HTT k hk
  exact h2.ty (by decide) h1
theorem ZrQ {α:Type}{l:List α}(h:l.length=1):∃b,l=[b]:=Zoz h
theorem ZnU (g kb base:Nat)(v:Value)(ns:List ByteArray)(sb:Option Nat)(Ak:Option Addr)(ck:Nat)(c:Ch)(s:Sn)(ev:Value)(said:List Int)(r:Rq)(k:Nat)(w:World)
 (hS:Zdy g kb base ns (svQ kb base (.slice Ak ns.length ck) c s ev said) sb w) (hsr:SnR s) (hlo:c.lo=0) (how:c.ow=1) (hsl:said.length≤1000000) (hre:0≤c.re∧c.re≤4294967295)
 (hd:RdS Ub8 (fun _=>True) w v (encL (fldsQ r k))) (hk:r.k=(k:Int)) (h1:1≤k) (h10:k≤10) (ha:Zbe r=0) (hr:r.Ok):
 Calls Tryz.prog 154 #[.pointer (some ⟨g,0,none⟩),.agg (eQ k v)] w fun e w'=>e= .returned (.tuple #[])∧
  ZgJ g kb base ns (fun S2=>∃ev',S2=svQ kb base (.slice Ak ns.length ck) (owe c 0) (ZfM ns s (ownQ r k) k).1 ev' (said++pkM (ansM (ansK (ZfM ns s (ownQ r k) k).2.ok) c))) sb w w':=by
 obtain⟨pv,fv,cv,lv,sv,bs,hS⟩:=hS
 obtain⟨b,hbs⟩:=ZrQ (l:=bs) (by rw[hS.la.len];rfl)
 subst hbs
 have HS:=zh hS
 have hg:=hS.blk
 have hl:=hS.la
 have hlr:=hS.ln
 have hp:RdY PgR (fun _=>True) w pv ns:=hS.pg.rdT.y
 have hev:OwnS Zbc 367 base (fun _=>False) w ev s.env:=hS.kr.2.1
 have hxb: [b][0]?=some b:=rfl
 have hbx:=hl.blk 0 b (lnQ s ev) rfl rfl
 have HBB:=zh (show base≤w.heap.size from hS.hb)
 have HSR:=zh hsr
 have HQ:=zh (ZrO ns s (ownQ r k) k)
 have HQR:=zh (ZfJ (ns:=ns) (s:=s) (r:=ownQ r k) hsr.ok (Ziw hr k).mo k)
 have hiSA:∀ (s:Sn) (ev:Value),s.t.Ok→(Tryz.prog.info? 309).map (·.size)=some (sesV s ev).size:=fun s ev h=>by rw[List.size_toArray,sesC_len h];kernel_rfl
 have hiSL:∀ (s:Sn) (ev:Value),s.t.Ok→(Tryz.prog.info? 309).map (·.size)=some (sesC s ev).length:=fun s ev h=>by rw[sesC_len h];kernel_rfl
 have HASK:=zh (fun w' (E:Ext w w')=>Zhu (A:=fun _=>True) (A2:=fun _=>True) s ev v pv r ns k w' hsr.ok ((hev.ext E).rdT.y) (RdS.ri (hd.ext E)) hk h1 h10 ha hr (hp.ext E))
 unfold ZrJ at HASK
 obtain⟨⟨qs,qa⟩,hq⟩:∃q:Sn×Ac,ZfM ns s (ownQ r k) k=q:=⟨_,rfl⟩
 rw[hq] at HASK HQ HQR⊢
 dsimp only at HASK HQR⊢
 have HRZ:=zh (Ziw hr k)
 obtain⟨r2,hr2⟩:=zm (ownQ r k)
 rw[hr2] at HRZ HQ
 clear hS hq hr2 hsr ha hr hk h1 h10
 obtain⟨W1,hW1⟩:=zn (w.alloc (.cells (eQ k v) 207))
 have E1:Ext w W1:=by rw[hW1];exact(Ext.refl _).alloc _
 have B1:=zh (show Blk W1 w.heap.size 207 (eQ k v) by rw[hW1];exact Blk.new w _ _)
 have HW1:=zh hW1
 have HLI:=zh (ZmI (A:=fun _=>True) g pv fv (.bool false) cv lm4 (.bool false) (.pointer (some ⟨kb,0,none⟩)) lv (.slice none 0 0) sv [b] _ 0 b W1 (hg.ext E1) (hlr.ext E1).rdT.y (hl.ext E1) (by simp) hxb)
 have q1:=B1.out.cell 1
 simp only[zG] at q1
 clear hW1
 go_enter Tryz.func154,Tryz.ntmps154
 go_upto_region 1 with fail
 rw[←HW1.out]
 clear HW1
 go_wp2_with fail
 refine(HLI.out).mono ?_
 rintro e w2 ⟨rfl,E2⟩
 have HBX:=zh (hbx.ext (E1.trans E2))
 have hLP:∀i u,(sesC s ev)[i]?=some u→w2.cell? ⟨b,1+i,none⟩=some u:=fun i u hu=>Zak HBX.out (by rw[List.getElem?_toArray];exact Zfx (x:=lnQ s ev) hu)
 have B5:=zh (Blk.new w2 309 ses0.toArray)
 have hone:(sesV s ev).all (·.oneCell')=true:=sesC_one s ev (own_oc hev)
 go_upto_region 4 with(first|(refine wpList_load_mid rfl 309 _ rfl b 1 rfl (sesC s ev) _ hLP Tryz.underlying309 rfl (hiSL _ _ HSR.out.ok.t) ?_)|(refine wpList_store_M rfl 309 _ _ rfl w2.heap.size _ rfl rfl 309 _ B5.out (hiSA _ _ HSR.out.ok.t) (by show ses0.length=(sesC s ev).length;rw[sesC_len HSR.out.ok.t];rfl) hone ?_;intro w3 P3 M3))
 have E23:Ext w2 w3:=Mod.toExt ((Ext.refl _).alloc _) M3 (fun k hk he=>by omega)
 (try simp only[zP])
 have P3:=zh P3
 have E03:=E1.trans (E2.trans E23)
 have E13:=E2.trans E23
 have q3:=(B1.out.ext E13).cell 3
 have q5:=(B1.out.ext E13).cell 5
 have g0:=(hg.ext E03).cell 0
 simp only[zG] at q3 q5 g0
 have HASK:=zh (fun w' (E:Ext w3 w')=>HASK.out w' (E03.trans E))
 go_cut [6,7] (fun s6 s7 wx=>∃ (n6 n7:Nat) (ev2:Value),s6= .pointer (some ⟨n6,0,none⟩)∧s7= .pointer (some ⟨n7,0,none⟩)∧n6≠n7∧w3.heap.size≤n6∧w3.heap.size≤n7∧Hid (Blk wx n6 309 (sesV qs ev2))∧Hid (Blk wx n7 321 (acV qa))∧Hid (OwnS Zbc 367 w3.heap.size (fun _=>False) wx ev2 qs.env)∧Ext w3 wx)
 case first=>
  have hiA:=zi Tryz.prog 321 8
  refine zg (fun w'=>Ext w3 w') (Ext.drew (Ext.refl _)) fun hHeld=>?_
  have EH:Ext w3 w3.drew:=Ext.drew (Ext.refl _)
  generalize w3.drew=wc at*
  (refine zU 0 rfl (Zac (by rfl) 309 _ rfl _ rfl 309 (sesV s ev) _ _ (fun w' hSw=>(P3.out.ext hSw)) Tryz.underlying309 rfl (hiSA _ _ HSR.out.ok.t)) ?_)
  refine zr 1 ?_
  refine zv 2 q3 ?_
  refine zr 3 ?_
  refine zv 4 q5 ?_
  refine zr 5 ?_
  refine zr 6 ?_
  refine zr 7 ?_
  refine zv 8 g0 ?_
  clear hHeld
  iterate 3
   all_goals (first|refine wpAnyH_ready (rs:=[9]) (by decide+kernel) (by simp) ?_|refine wpAnyH_ready (rs:=[9,13]) (by decide+kernel) (by simp) ?_|refine wpAnyH_ready (rs:=[9,14]) (by decide+kernel) (by simp) ?_|refine wpAnyH_ready (rs:=[9,13,14]) (by decide+kernel) (by simp) ?_|refine wpAnyH_ready (rs:=[13]) (by decide+kernel) (by simp) ?_|refine wpAnyH_ready (rs:=[14]) (by decide+kernel) (by simp) ?_|refine wpAnyH_ready (rs:=[13,14]) (by decide+kernel) (by simp) ?_)
   all_goals (repeat' (first|exact AllReadyH.nil|refine AllReadyH.cons rfl (fun K hK=>?_) ?_))
   all_goals first
    |(
     go_simp
     go_at_call 224
     refine(HASK.out wc EH).mono ?_
     rintro e wc ⟨ev2,rfl,OV,E3⟩
     (try dsimp only)
     refine zo hK (EH.trans E3) fun hHeld=>?_
     clear hK K hHeld
     (try have OV:=zh (OV.out.ext E3))
     (try have B6:=zh (B6.out.ext E3))
     (try have B7:=zh (B7.out.ext E3))
     have OV:=zh (OV.lower EH.size)
     have EH:=EH.trans E3
     (try have LB6:=B6.out.lt)
     (try have LB7:=B7.out.lt)
     clear E3
     have hHeld:Ext w3 wc:=EH
     refine zr 10 ?_
     refine zr 11 ?_
     refine zr 12 ?_
     clear hHeld
     )
    |(
     go_simp
     refine zo hK (EH.alloc (.cells #[.bool false,.string ⟨#[]⟩,.int .u32 0,.int .u32 0,.int .u32 0,.int .u32 0,.int .u8 0,.int .u8 0,.int .u8 0,.int .u8 0,.int .u8 0,.int .u8 0,.int .u8 0,.int .u8 0,.int .u8 0,.int .u8 0,.int .u8 0,.int .u8 0,.int .u8 0,.int .u8 0,.int .u8 0,.int .u8 0,.int .u8 0,.int .u8 0,.int .u8 0,.int .u64 0,.int .u32 0,.int .u32 0,.int .i64 0,.int .i64 0,.slice none 0 0,.bool false] 309)) fun hHeld=>?_
     clear hK K hHeld
     have EX:=(Ext.refl wc).alloc (.cells #[.bool false,.string ⟨#[]⟩,.int .u32 0,.int .u32 0,.int .u32 0,.int .u32 0,.int .u8 0,.int .u8 0,.int .u8 0,.int .u8 0,.int .u8 0,.int .u8 0,.int .u8 0,.int .u8 0,.int .u8 0,.int .u8 0,.int .u8 0,.int .u8 0,.int .u8 0,.int .u8 0,.int .u8 0,.int .u8 0,.int .u8 0,.int .u8 0,.int .u8 0,.int .u64 0,.int .u32 0,.int .u32 0,.int .i64 0,.int .i64 0,.slice none 0 0,.bool false] 309)
     (try have OV:=zh (OV.out.ext EX))
     (try have B7:=zh (B7.out.ext EX))
     have B6:=zh (Blk.new wc 309 #[.bool false,.string ⟨#[]⟩,.int .u32 0,.int .u32 0,.int .u32 0,.int .u32 0,.int .u8 0,.int .u8 0,.int .u8 0,.int .u8 0,.int .u8 0,.int .u8 0,.int .u8 0,.int .u8 0,.int .u8 0,.int .u8 0,.int .u8 0,.int .u8 0,.int .u8 0,.int .u8 0,.int .u8 0,.int .u8 0,.int .u8 0,.int .u8 0,.int .u8 0,.int .u64 0,.int .u32 0,.int .u32 0,.int .i64 0,.int .i64 0,.slice none 0 0,.bool false])
     obtain⟨n6,hn6⟩:=zm (wc.heap.size)
     have hn6W:w3.heap.size≤n6:=by rw[←hn6];exact EH.size
     have EH:=EH.trans EX
     clear EX
     rw[hn6] at B6⊢
     (try have hne_n7_n6:n7≠n6:=by have:=LB7;omega)
     (try have hne_n6_n7:n6≠n7:=fun h=>hne_n7_n6 h.symm)
     clear hn6
     generalize wc.alloc _=wc at*
     have LB6:=B6.out.lt
     )
    |(
     go_simp
     refine zo hK (EH.alloc (.cells #[.bool false,.int .i64 0,.int .i64 0,.int .i64 0,.int .u32 0,.int .u32 0,.int .u32 0,.int .u32 0] 321)) fun hHeld=>?_
     clear hK K hHeld
     have EX:=(Ext.refl wc).alloc (.cells #[.bool false,.int .i64 0,.int .i64 0,.int .i64 0,.int .u32 0,.int .u32 0,.int .u32 0,.int .u32 0] 321)
     (try have OV:=zh (OV.out.ext EX))
     (try have B6:=zh (B6.out.ext EX))
     have B7:=zh (Blk.new wc 321 #[.bool false,.int .i64 0,.int .i64 0,.int .i64 0,.int .u32 0,.int .u32 0,.int .u32 0,.int .u32 0])
     obtain⟨n7,hn7⟩:=zm (wc.heap.size)
     have hn7W:w3.heap.size≤n7:=by rw[←hn7];exact EH.size
     have EH:=EH.trans EX
     clear EX
     rw[hn7] at B7⊢
     (try have hne_n6_n7:n6≠n7:=by have:=LB6;omega)
     (try have hne_n7_n6:n7≠n6:=fun h=>hne_n6_n7 h.symm)
     clear hn7
     generalize wc.alloc _=wc at*
     have LB7:=B7.out.lt
     )
  all_goals
   have hHeld:Ext w3 wc:=EH
   (refine zw 15 fun K hK=>?_;rw[if_pos (by rfl)];refine Zag 309 _ _ rfl (n6) _ rfl rfl 309 _ B6.out (hiSA _ _ HQR.out.t) (by show ses0.length=(sesC qs ev2).length;rw[sesC_len HQR.out.t];rfl) (sesC_one _ _ (own_oc OV.out)) ?_;intro u4 B8 M8;refine zo hK (Mod.toExt hHeld M8 (fun k hk he=>by omega)) fun hHeld=>?_;clear hK K)
   have B78:=zh (B7.out.mod M8 hne_n7_n6)
   have OV8:=zh (OV.out.mod M8 (fun k hk he=>Zai OV.out B6.out (by decide) (by rw[hk,he])) (fun k _ hk=>hk.elim))
   have B8:=zh B8
   have HE8:=zh hHeld
   (refine zw 16 fun K hK=>?_;rw[if_pos (by rfl)];refine Zag 321 _ _ rfl (n7) _ rfl rfl 321 _ B78.out hiA (by rfl) (ZhM qa) ?_;intro u5 B9 M9;refine zo hK (Mod.toExt HE8.out M9 (fun k hk he=>by omega)) fun hHeld=>?_;clear hK K)
   have B89:=zh (B8.out.mod M9 hne_n6_n7)
   have OV9:=zh (OV8.out.mod M9 (fun k hk he=>Zai OV8.out B78.out (by decide) (by rw[hk,he])) (fun k _ hk=>hk.elim))
   refine zd ?_
   go_wp2_with fail
   go_meet
   exact⟨n6,n7,ev2,rfl,rfl,hne_n6_n7,hn6W,hn7W,B89,zh B9,OV9,hHeld⟩
 case rest=>
  obtain⟨n6,n7,ev2,rfl,rfl,hne,h6,h7,B6,B7,OV,E36⟩:=hcut
  obtain⟨w5,hw5⟩:=zn (wc)
  subst hw5
  have HBX5:=zh (HBX.out.ext (E23.trans E36))
  have hl1:(lnQ s ev).sc.length=32:=sesC_len HSR.out.ok.t ev
  have hl2:(sesC qs ev2).length=32:=sesC_len HQR.out.t ev2
  have hth:w5.there b 1 (sesV qs ev2).size:=fun t ht=>by
   have ht2:t<(lnQ s ev).sc.length:=by rw[hl1];rw[List.size_toArray,hl2] at ht;exact ht
   have h9:w5.cell? ⟨b,1+t,none⟩=some _:=Zak HBX5.out (by rw[List.getElem?_toArray];exact Zfx (x:=lnQ s ev) (List.getElem?_eq_getElem ht2))
   exact⟨by rw[h9];rfl,HBX5.out.frozen _⟩
  have HX6:=zh (show Blk (w5.setCells b 1 (sesC qs ev2)) b 311 (lnL ⟨0,sesC qs ev2,if s.st then 1 else 0⟩).toArray from by
   have h9:=Blk.setCells (sesC qs ev2) 1 w5 _ HBX5.out (by rw[List.size_toArray,ZpQ hl1,hl2];decide)
   rw[ZpR hl1 hl2] at h9
   exact h9)
  have M6:=zh (Mod.setCells (sesC qs ev2) 1 w5 w5 (Mod.refl (fun k=>k=b) w5))
  go_upto_region 6 with(first|(refine wpList_load_row rfl 309 _ rfl _ rfl 309 _ _ _ B6.out Tryz.underlying309 rfl (hiSA _ _ HQR.out.t) ?_)|(refine wpList_store_mid rfl 309 _ _ rfl b 1 (sesV qs ev2) rfl rfl (by exact hth) (hiSA _ _ HQR.out.t) (sesC_one _ _ (own_oc OV.out)) ?_))
  have hbl:b<w.heap.size:=hbx.lt
  have E05:=zh (E03.trans E36)
  have S5:=zh (HS.out.ext E05.out)
  have hz3:=E03.size
  obtain⟨w6,hw6⟩:=zn (w5.setCells b 1 (sesC qs ev2))
  rw[←hw6] at HX6 M6
  first|rw[←hw6]|(change Code.wp _ _ _ _ (w5.setCells b 1 (sesC qs ev2));rw[←hw6])
  clear hw6
  have S6:=zh (show SwW g kb base ns ⟨[c],[⟨0,sesC qs ev2,if s.st then 1 else 0⟩],said,false,KS kb base (.slice Ak ns.length ck) s ev⟩ sb w6 pv fv cv lv sv [b] from S5.out.line (j:=0) (b:=b) (x:=lnQ s ev) rfl hxb M6.out HX6.out rfl hl2)
  have V6:=zh ((SwM.of_ext E05.out:SwM base sb w w5).trans (fun k h=>.inl h) (SwM.line S5.out (j:=0) (b:=b) (x:=lnQ s ev) rfl hxb M6.out))
  have hb7:b≠n7:=by omega
  have B76:=zh (B7.out.mod M6.out (fun h=>hb7 h.symm))
  have B16:=zh ((B1.out.ext (E13.trans E36)).mod M6.out (by omega))
  have OV6:=zh ((OV.out.lower (base':=base) (Nat.le_trans HBB.out hz3)).mod M6.out (fun k hk he=>Zai OV.out HBX5.out (by decide) (by rw[hk,he])) (fun k _ hk=>hk.elim))
  have hz6:w3.heap.size≤w6.heap.size:=Nat.le_trans E36.size M6.out.size
  have d1:=B76.out.cell 1
  have d2c:=B76.out.cell 2
  simp only[List.getElem?_toArray,acC,List.getElem?_cons_zero,List.getElem?_cons_succ] at d1 d2c
  clear B1 HBX HBX5 B7 B6 OV HASK HLI hLP q1 q3 q5 g0 hth P3 M3 E36 E13 E23 E05 hg hlr hp hd hl hbx hev S5
  go_upto_block 0 with fail
  go_cut [] (fun wx=>Hid (SwW g kb base ns (svQ kb base (.slice Ak ns.length ck) c qs ev2 said) sb wx pv fv cv lv sv [b])∧Hid (SwM base sb w wx)∧Hid (Blk wx n7 321 (acV qa))∧Hid (Blk wx w.heap.size 207 (eQ k v)))
  case first=>
   have HQ2:=HQ.out
   clear HQ
   cases HQ2 with
   |quiet s2 a hd h1 h2=>
    obtain⟨aok,ad,apr,asg,a1,a2,a3,a4⟩:=qa
    dsimp only at hd
    subst hd
    have HSN:=zh (show SwW g kb base ns (svQ kb base (.slice Ak ns.length ck) c qs ev2 said) sb w6 pv fv cv lv sv [b] from by
     have h9:=S6.out.kern (K2:=KS kb base (.slice Ak ns.length ck) qs ev2) (ZaR.of_ext (Ext.refl _)) (S6.out.kr.quiet OV6.out h1 h2) KS.ks
     show SwW g kb base ns ⟨[c],[⟨0,sesC qs ev2,if qs.st then 1 else 0⟩],said,false,KS kb base (.slice Ak ns.length ck) qs ev2⟩ sb w6 pv fv cv lv sv [b]
     rw[h1]
     exact h9)
    clear S6 h1 h2
    go_wp2_with fail
    go_meet
    exact⟨HSN,V6,B76,B16⟩
   |start n hn h1=>
    have hkb:=S6.out.kr.1
    have HKE:=S6.out.kr.2.2.1 h1
    have HST:=zh (Zlx g kb base b pv fv (.bool false) cv lm4 (.bool false) lv (.slice none 0 0) sv ⟨0,sesC {s with st:=true} ev2,if s.st then 1 else 0⟩ {s with st:=true} ev2 Ak ns.length ck n w6 S6.out.blk (S6.out.la.blk 0 b _ rfl rfl) rfl HSR.out.ok.t HSR.out.rt hkb HKE hn)
    unfold ZhJ at HST
    have HKE:=zh HKE
    clear h1 hn
    go_wp2_with fail
    refine(HST.out).mono ?_
    rintro e w7 ⟨rfl,⟨tt,htt,K7⟩,X7,M7⟩
    have hbl7:=S6.out.la.blk 0 b _ rfl rfl
    have M72:Mod (fun k=>k=b∨ZaT swK base w6 k) w6 w7:=M7.mono (fun k _ hk=>hk.elim .inl (fun hk=>.inr (by rw[hk];exact HKE.out.ty (by decide) hkb)))
    have OV7:=OV6.out.mod M7 (fun k hk he=>he.elim (fun he=>Zai OV6.out hbl7 (by decide) (by rw[hk,he])) (fun he=>Zai OV6.out HKE.out (by decide) (by rw[hk,he]))) (fun k _ hk=>hk.elim)
    have S7:=zh (show SwW g kb base ns (svQ kb base (.slice Ak ns.length ck) c {s with st:=true} ev2 said) sb w7 pv fv cv lv sv [b] from S6.out.both (K2:=KS kb base (.slice Ak ns.length ck) {s with st:=true} ev2) (j:=0) (b:=b) (x:=⟨0,sesC {s with st:=true} ev2,if s.st then 1 else 0⟩) (y:=⟨0,sesC {s with st:=true} ev2,1⟩) rfl hxb M72 X7 rfl hl2 ⟨hkb,OV7,(fun h=>by cases h),fun _=>⟨tt,htt,newP 1 n,newP_bd 1 n,K7⟩⟩ KS.ks)
    have V7:=zh (V6.out.trans (fun k h=>.inl h) (SwM.both S6.out (j:=0) (b:=b) (x:=⟨0,sesC {s with st:=true} ev2,if s.st then 1 else 0⟩) rfl hxb M72))
    have B77:=zh (B76.out.mod M7 (fun he=>he.elim (fun he=>Zap B76.out hbl7 (by decide) he) (fun he=>Zap B76.out HKE.out (by decide) he)))
    have B17:=zh (B16.out.mod M7 (fun he=>he.elim (fun he=>Zap B16.out hbl7 (by decide) he) (fun he=>Zap B16.out HKE.out (by decide) he)))
    clear S6 V6 B76 B16 OV6 HST X7 M7 M72 OV7 K7 hbl7
    go_wp2_with fail
    go_meet
    exact⟨S7,V7,B77,B17⟩
   |size h1 h2=>
    have hkb:=S6.out.kr.1
    obtain⟨tt,htt,HKS⟩:=S6.out.kr.2.2.2 h1
    have HKS:=zh HKS
    have HTY:=zh (fun k hk=>HKS.out.ty (k:=k) hk)
    have HTS:=zh (htt.trans h2)
    have HTP:=zh htt
    have HRS:=zh (fun w' (E:Ext w6 w')=>ZhF kb base (.slice Ak ns.length ck) tt ⟨s.z1,s.z2,s.z3,s.z4⟩ ⟨r2.c1,r2.c2,r2.c3,r2.c4⟩ w' (HKS.out.ext E) (Nat.le_trans S6.out.hb E.size) HSR.out.z ⟨HRZ.out.c1,HRZ.out.c2,HRZ.out.c3,HRZ.out.c4⟩)
    have hiZ:=zi Tryz.prog 35 4
    have hbl7:=zh (S6.out.la.blk 0 b _ rfl rfl)
    have hgl:=S6.out.blk.lt
    have hb6:=hbl7.out.lt
    have hn6:=B76.out.lt
    have hgt:¬ZaT [218,382] base w6 g:=S6.out.blk.nty (by decide)
    have hbt:¬ZaT [218,382] base w6 b:=hbl7.out.nty (by decide)
    have hnt:¬ZaT [218,382] base w6 n7:=B76.out.nty (by decide)
    have k6:=S6.out.blk.cell 6
    have x33:=hbl7.out.cell 33
    have d4:=B76.out.cell 4
    have d5:=B76.out.cell 5
    have d6:=B76.out.cell 6
    have d7:=B76.out.cell 7
    rw[List.getElem?_toArray,Zgf (x:=⟨0,sesC (s.size r2) ev2,if s.st then 1 else 0⟩) hl2] at x33
    simp only[List.getElem?_toArray,acC,List.getElem?_cons_zero,List.getElem?_cons_succ] at k6 d4 d5 d6 d7
    rw[if_pos h1] at x33
    have HRNG:=zh (show ∀w',Mod (fun k=>ZaT [218,382] base w6 k) w6 w'→w'.rangeAt n7 4 [.int .u32 r2.c1,.int .u32 r2.c2,.int .u32 r2.c3,.int .u32 r2.c4] from fun w' M i u hu=>by
     rw[M.cell n7 _ hn6 hnt]
     rcases i with _|_|_|_|i
     ·exact d4.trans hu
     ·exact d5.trans hu
     ·exact d6.trans hu
     ·exact d7.trans hu
     ·simp at hu)
    have H1:=zh h1
    clear h1 h2 htt d4 d5 d6 d7
    go_upto_region 11 with fail
    refine zg (fun w'=>Mod (fun k=>ZaT [218,382] base w6 k) w6 w') (Mod.of_ext (Ext.drew (Ext.refl _))) fun hHeld=>?_
    obtain⟨D,hD⟩:=zn (w6.drew)
    have ED:Ext w6 D:=by rw[hD];exact(Ext.refl _).drew
    rw[←hD] at hHeld⊢
    clear hD
    refine zr 0 ?_
    refine zr 1 ?_
    refine zr 2 ?_
    (refine zu 3 (fun _ h=>(h.cell g 6 hgl hgt).trans k6) ?_)
    refine zr 4 ?_
    refine zr 5 ?_
    refine zr 6 ?_
    (refine zu 7 (fun _ h=>(h.cell b 33 hb6 hbt).trans x33) ?_)
    refine zr 8 ?_
    (refine zU 9 rfl (yieldsIf_load_mid (by rfl) 35 _ rfl _ _ rfl [.int .u32 r2.c1,.int .u32 r2.c2,.int .u32 r2.c3,.int .u32 r2.c4] _ (fun w' hSw=>(HRNG.out w' hSw)) Tryz.underlying35 rfl hiZ) ?_)
    refine zc 10 ((HRS.out D ED)) ?_
    rintro e w7 ⟨rfl,K7,M7⟩ K hK
    have M67:=zh (show ZaR [218,382] base w6 w7 from(Mod.of_ext ED).trans (M7.mono (fun k _ hk=>HTY.out k hk)))
    refine zo hK M67.out fun hHeld=>?_
    clear hK K
    refine zd ?_
    obtain⟨tz,htz⟩:=zm ((if tt.isSome=true then(⟨r2.c1,r2.c2,r2.c3,r2.c4⟩:Sz) else⟨s.z1,s.z2,s.z3,s.z4⟩))
    rw[htz] at K7
    rw[if_pos HTS.out] at htz
    subst htz
    have OV7:=OV6.out.modT M67.out (by decide)
    have hsp:(s.size r2).pty=true:=by rw[←HTS.out];exact HTP.out.symm
    have S7:=zh (show SwW g kb base ns (svQ kb base (.slice Ak ns.length ck) c (s.size r2) ev2 said) sb w7 pv fv cv lv sv [b] from S6.out.kern (K2:=KS kb base (.slice Ak ns.length ck) (s.size r2) ev2) (M67.out.mono (by decide) (Nat.le_refl _)) ⟨hkb,OV7,(fun h=>by rw[show(s.size r2).st=s.st from rfl,H1.out] at h;cases h),fun _=>⟨tt,HTP.out,K7⟩⟩ KS.ks)
    have V7:=zh (V6.out.trans (fun k h=>.inl h) (SwM.kern (M67.out.mono (by decide) (Nat.le_refl _))))
    have B77:=zh (B76.out.modT M67.out (by decide))
    have B17:=zh (B16.out.modT M67.out (by decide))
    clear S6 V6 B76 B16 OV6 HRS M7 OV7 K7 hbl7 HRNG hHeld hsp
    go_wp2_with fail
    go_meet
    exact⟨S7,V7,B77,B17⟩
   |sig g2 h1 h2=>
    have hkb:=S6.out.kr.1
    obtain⟨tt,htt,HKS⟩:=S6.out.kr.2.2.2 h1
    have HKS:=zh HKS
    have HTP:=zh htt
    have HRS:=zh (fun w' (E:Ext w6 w')=>ZhG kb base (.slice Ak ns.length ck) tt ⟨s.z1,s.z2,s.z3,s.z4⟩ g2 w' (HKS.out.ext E) (Nat.le_trans S6.out.hb E.size) h2)
    have hbl7:=zh (S6.out.la.blk 0 b _ rfl rfl)
    have hgl:=S6.out.blk.lt
    have hb6:=hbl7.out.lt
    have hn6:=B76.out.lt
    have hgk:¬(g=kb∨g=n7):=fun he=>he.elim (fun he=>by
     have h9:=HKS.out.ty (k:=kb) (.inl rfl)
     rw[←he] at h9
     exact S6.out.blk.nty (by decide) h9) (fun he=>Zap S6.out.blk B76.out (by decide) he)
    have hbk:¬(b=kb∨b=n7):=fun he=>he.elim (fun he=>by
     have h9:=HKS.out.ty (k:=kb) (.inl rfl)
     rw[←he] at h9
     exact hbl7.out.nty (by decide) h9) (fun he=>hb7 he)
    have hnk:¬n7=kb:=fun he=>by
     have h9:=HKS.out.ty (k:=kb) (.inl rfl)
     rw[←he] at h9
     exact B76.out.nty (by decide) h9
    have k6:=S6.out.blk.cell 6
    have x33:=hbl7.out.cell 33
    have d3:=B76.out.cell 3
    rw[List.getElem?_toArray,Zgf (x:=⟨0,sesC s ev2,if s.st then 1 else 0⟩) hl2] at x33
    simp only[List.getElem?_toArray,acC,List.getElem?_cons_zero,List.getElem?_cons_succ] at k6 d3
    rw[if_pos h1] at x33
    have H1:=zh h1
    clear h1 h2 htt
    go_upto_region 13 with fail
    refine zg (fun w'=>Mod (fun k=>k=kb∨k=n7) w6 w'∧∀i,i≠0→w'.cell? ⟨n7,i,none⟩=w6.cell? ⟨n7,i,none⟩) (⟨Mod.of_ext (Ext.drew (Ext.refl _)),fun i hi=>rfl⟩) fun hHeld=>?_
    obtain⟨D,hD⟩:=zn (w6.drew)
    have ED:Ext w6 D:=by rw[hD];exact(Ext.refl _).drew
    rw[←hD] at hHeld⊢
    clear hD
    refine zr 0 ?_
    refine zr 1 ?_
    refine zr 2 ?_
    (refine zu 3 (fun _ h=>(h.1.cell g 6 hgl hgk).trans k6) ?_)
    refine zr 4 ?_
    refine zr 5 ?_
    refine zr 6 ?_
    (refine zu 7 (fun _ h=>(h.1.cell b 33 hb6 hbk).trans x33) ?_)
    refine zr 8 ?_
    (refine zu 9 (fun _ h=>(h.2 3 (by decide)).trans d3) ?_)
    refine zc 10 ((HRS.out D ED)) ?_
    rintro e w7 ⟨rfl,K7,M7⟩ K hK
    have M67:=zh (show Mod (fun k=>k=kb) w6 w7 from(Mod.of_ext ED).trans M7)
    refine zo hK ⟨M67.out.mono (fun k _ hk=>.inl hk),fun i hi=>M67.out.cell n7 i hn6 hnk⟩ fun hHeld=>?_
    clear hK K
    refine zr 11 ?_
    refine zr 12 ?_
    have B87:=zh (B76.out.mod M67.out hnk)
    have d0:=B87.out.cell 0
    have f0:=B87.out.frozen 0
    simp only[List.getElem?_toArray,acC,List.getElem?_cons_zero] at d0
    have M78:Mod (fun k=>k=n7) w7 (w7.setCell ⟨n7,0,none⟩ (.bool true)):=(Mod.refl _ _).set1 _
    have B97:=zh (show Blk (w7.setCell ⟨n7,0,none⟩ (.bool true)) n7 321 (acV ⟨true,3,0,g2,0,0,0,0⟩) from B87.out.set_ 0 (.bool true))
    refine zw 13 fun K hK=>?_
    go_simp
    refine hK.out _ _ ⟨(M67.out.mono (fun k _ hk=>.inl hk)).trans (M78.mono (fun k _ hk=>.inr hk)),fun i hi=>?_⟩ (fun hHeld=>?_)
    ·rw[B97.out.cell,B76.out.cell]
    clear hK K
    (try simp only[zP])
    have HKB:=HKS.out.ty (k:=kb) (.inl rfl)
    have M6T:ZaR [218,382] base w6 w7:=ZaR.of_mod M67.out (fun k _ hk=>by rw[hk];exact HKB)
    have M7T:ZaR [321] 0 w7 (w7.setCell ⟨n7,0,none⟩ (.bool true)):=ZaR.of_mod M78 (fun k _ hk=>by rw[hk];exact B87.out.ty (by decide) (Nat.zero_le _))
    have OV7:=OV6.out.modT M6T (by decide)
    have S7:=show SwW g kb base ns (svQ kb base (.slice Ak ns.length ck) c s ev2 said) sb w7 pv fv cv lv sv [b] from by
     have h9:=S6.out.kern (K2:=KS kb base (.slice Ak ns.length ck) s ev2) (M6T.mono (by decide) (Nat.le_refl _)) ⟨hkb,OV7,(fun h=>by rw[H1.out] at h;cases h),fun _=>⟨tt,HTP.out,K7⟩⟩ KS.ks
     exact h9
    have S8:=zh (show SwW g kb base ns (svQ kb base (.slice Ak ns.length ck) c s ev2 said) sb (w7.setCell ⟨n7,0,none⟩ (.bool true)) pv fv cv lv sv [b] from S7.act M78 B87.out (S7.kr.modT M7T (by decide) (by decide)))
    have V8:=zh ((V6.out.trans (fun k h=>.inl h) (SwM.kern (M6T.mono (by decide) (Nat.le_refl _)))).act M78 (by have:=HBB.out;have:=M67.out.size;omega))
    have B18:=zh ((B16.out.modT M6T (by decide)).modT M7T (by decide))
    clear S6 V6 B76 B16 OV6 HRS M7 OV7 K7 hbl7 hHeld S7 M6T M7T M67 M78 B87 d0 f0 HKB
    generalize w7.setCell ⟨n7,0,none⟩ (.bool true)=w8 at*
    refine zd ?_
    go_wp2_with fail
    go_meet
    exact⟨S8,V8,B97,B18⟩
  case rest=>
   obtain⟨S7,V7,B77,B17⟩:=hcut
   have HYB:=zh (S7.out.la.blk 0 b _ rfl rfl)
   have e4:=B17.out.cell 4
   have c0:=B77.out.cell 0
   simp only[List.getElem?_toArray,acC,List.getElem?_cons_zero,List.getElem?_cons_succ] at e4 c0
   have HG:=zh (show Blk wc g 143 (ZbA pv fv (.bool false) cv lm4 (.bool false) (.pointer (some ⟨kb,0,none⟩)) lv (.slice none 0 0) sv) from S7.out.blk)
   have hb7:=S7.out.hb
   have hnlt:=B77.out.lt
   have hng:¬(n7=g∨sv.ownBlock=some n7):=fun h9=>h9.elim (fun h9=>absurd h9 (Zap B77.out HG.out (by decide))) (fun h9=>Zai S7.out.sd B77.out (by decide) h9)
   have hlk:Zg7 [c]:=fun j c' hj=>by
    rcases j with _|j
    ·obtain rfl:=Option.some.inj hj
     exact hlo
    ·simp at hj
   clear S6 V6 B76 B16 OV6 HX6 M6 d1 d2c
   go_upto_region 15 with fail
   refine zg (fun w'=>Mod (fun k=>k=g∨sv.ownBlock=some k) wc w') (Mod.of_ext (Ext.drew (Ext.refl _))) fun hHeld=>?_
   obtain⟨D,hD⟩:=zn (World.drew wc)
   have ED:Ext wc D:=by rw[hD];exact(Ext.refl _).drew
   rw[←hD] at hHeld⊢
   clear hD
   refine zr 0 ?_
   refine zr 1 ?_
   refine zr 2 ?_
   refine zr 4 ?_
   (refine zu 5 (fun _ h=>(h.cell n7 0 hnlt hng).trans c0) ?_)
   (refine zc 3 (Zi7 (A:=fun _=>True) g b pv fv (.bool false) cv (.pointer (some ⟨kb,0,none⟩)) lv (.slice none 0 0) sv [c] (lnQ qs ev2) 0 c D (HG.out.ext ED) (S7.out.ch.ext ED).rdT.y (HYB.out.ext ED) rfl hlk rfl) ?_;rintro e w9 ⟨rfl,E9⟩ K hK;refine zo hK (Mod.of_ext (ED.trans E9)) fun hHeld=>?_;clear hK K)
   (refine zc 6 (Zkl c qa.ok _ how) ?_;rintro e w10 ⟨rfl,E10⟩ K hK;refine zo hK (Mod.of_ext ((ED.trans E9).trans E10)) fun hHeld=>?_;clear hK K)
   refine zr 7 ?_
   refine zr 8 ?_
   refine zr 9 ?_
   have E710:=zh ((ED.trans E9).trans E10)
   clear ED E9 E10
   (refine zw 10 fun K hK=>?_;go_simp;go_at_call 218;refine(Zq2 (A:=fun _=>True) g base pv fv (.bool false) cv (.pointer (some ⟨kb,0,none⟩)) lv (.slice none 0 0) sv [c] said 0 (owe c 0) (ansM (ansK qa.ok) c) w10 (HG.out.ext E710.out) (S7.out.ch.ext E710.out).rdT.y (by simp) (by show Zl8 [c] c.lo=0;rw[hlo];exact hlk.fnd (j:=0) rfl) (by simp) (S7.out.sd.ext E710.out) (Nat.le_trans hb7 E710.out.size) (by omega) rfl (Zgp hre)).mono ?_;rintro e w11 ⟨rfl,cv',sv',B11,C11,O11,own11,M11⟩;(try dsimp only);refine zo hK ((Mod.of_ext E710.out).trans M11) fun hHeld=>?_;clear hK K)
   refine zd ?_
   go_wp2
   go_end0
   have S10:=zh (S7.out.ext E710.out)
   have hz10:=E710.out.size
   have S11:=S10.out.say (Nat.le_trans hb7 hz10) M11 B11 C11 O11
   refine⟨rfl,_,sv'.ownBlock,⟨ev2,rfl⟩,⟨pv,fv,cv',lv,sv',[b],S11⟩,fun k hk=>?_,V7.out.trans (fun k h=>.inl h) ((SwM.of_ext E710.out:SwM base sb wc w10).trans (fun k h=>.inl h) (SwM.say S10.out M11))⟩
   rcases own11 k hk with h9|h9
   ·exact .inl (by rw[←S10.out.sb];exact h9)
   ·have:=V7.out.size
    exact .inr (by omega)
def swZ (kb base:Nat)(kv:Value):SwT:=⟨[],[],[],false,KS kb base kv sn0 (.slice none 0 0)⟩
def ZgK (f:Nat)(args:Array Value):Prop:=∃q:Bool,∀w,Calls Tryz.prog f args w fun e w'=>e= .returned (.bool q)∧Ext w w'
theorem ZsO (a n:Int)(o:Po):ZgK 187 #[.agg (plA a n),.agg (opA o)]:=by
 apply Exists.intro
 intro w
 go_enter Tryz.func187,Tryz.ntmps187
 go_wp2_with fail
 refine(Zaz _ _ _ _).mono ?_
 rintro e w1 ⟨rfl,E1⟩
 go_wp2
 go_ret
 exact⟨rfl,zX⟩
theorem ZrR (a n:Int)(o:Po):ZgK 189 #[.agg (plA a n),.agg (opA o)]:=by
 apply Exists.intro
 intro w
 go_enter Tryz.func189,Tryz.ntmps189
 go_wp2_with fail
 refine(Zaz _ _ _ _).mono ?_
 rintro e w1 ⟨rfl,E1⟩
 go_wp2
 go_ret
 exact⟨rfl,zX⟩
theorem ZrS (a n:Int)(o:Po):ZgK 191 #[.agg (plA a n),.agg (opA o)]:=by
 apply Exists.intro
 intro w
 go_enter Tryz.func191,Tryz.ntmps191
 go_wp2_with fail
 refine(Zaz _ _ _ _).mono ?_
 rintro e w1 ⟨rfl,E1⟩
 go_wp2
 go_ret
 exact⟨rfl,zX⟩
theorem ZrT (a n:Int)(o:Po):ZgK 193 #[.agg (plA a n),.agg (opA o)]:=by
 apply Exists.intro
 intro w
 go_enter Tryz.func193,Tryz.ntmps193
 go_wp2_with fail
 refine(Zaz _ _ _ _).mono ?_
 rintro e w1 ⟨rfl,E1⟩
 go_wp2
 go_ret
 exact⟨rfl,zX⟩
theorem Zql (a n:Int)(o:Po):ZgK 195 #[.agg (plA a n),.agg (opA o)]:=by
 apply Exists.intro
 intro w
 go_enter Tryz.func195,Tryz.ntmps195
 go_wp2_with fail
 refine(Zaz _ _ _ _).mono ?_
 rintro e w1 ⟨rfl,E1⟩
 go_wp2
 go_ret
 exact⟨rfl,zX⟩
theorem ZsP (a n:Int)(o:Po):ZgK 198 #[.agg (plA a n),.agg (opA o)]:=by
 apply Exists.intro
 intro w
 go_enter Tryz.func198,Tryz.ntmps198
 go_wp2_with fail
 refine(Zaz _ _ _ _).mono ?_
 rintro e w1 ⟨rfl,E1⟩
 go_wp2
 go_ret
 exact⟨rfl,zX⟩
theorem ZoA (a n:Int)(o:Po):ZgK 188 #[.agg (plA a n),.agg (opA o)]:=by
 apply Exists.intro
 intro w
 go_enter Tryz.func188,Tryz.ntmps188
 go_wp2
 go_ret
 exact⟨rfl,zX⟩
theorem dany (a n:Int)(o:Po):ZgK 194 #[.agg (plA a n),.agg (opA o)]:=by
 apply Exists.intro
 intro w
 go_enter Tryz.func194,Tryz.ntmps194
 go_wp2
 go_ret
 exact⟨rfl,zX⟩
theorem ZoB (a n:Int)(o:Po):ZgK 190 #[.agg (plA a n),.agg (opA o)]:=by
 refine⟨decide (a<o.a)&&decide (o.a<n),fun w=>?_⟩
 by_cases h1:a<o.a<;>by_cases h2:o.a<n<;>(go_enter Tryz.func190,Tryz.ntmps190;go_wp2;go_ret;exact⟨by simp[h1,h2],zX⟩)
theorem ZoC (n:Int):ZgK 257 #[.int .i64 n]:=by
 have HN:=zh (fun w'=>Sg.Zik n w')
 generalize Sg.isL n=q at*
 generalize (if q=true then Sg.nameB n.toNat else⟨#[]⟩)=nm at*
 apply Exists.intro
 intro w
 go_enter Tryz.func257,Tryz.ntmps257
 go_wp2_with fail
 refine(HN.out _).mono ?_
 rintro e w1 ⟨rfl,E1⟩
 go_wp2
 go_ret
 exact⟨rfl,E1⟩
theorem Zqm (a n:Int)(o:Po):ZgK 192 #[.agg (plA a n),.agg (opA o)]:=by
 have HWI:=zh (fun w'=>Zaz o.a 0 4 w')
 obtain⟨q1,hq1⟩:=zm (decide (0≤o.a∧o.a≤4))
 rw[hq1] at HWI
 clear hq1
 obtain⟨q2,hs⟩:=ZoC o.b
 have HSI:=zh hs
 clear hs
 cases q1 with
 |false=>
  apply Exists.intro
  intro w
  obtain⟨W1,hW1⟩:=zn ((w.alloc (.cells (plA a n) 104)).alloc (.cells (opA o) 108))
  have E1:Ext w W1:=by rw[hW1];exact((Ext.refl _).alloc _).alloc _
  have B1:=zh (show Blk W1 (w.heap.size+1) 108 (opA o) by rw[hW1];exact Blk.at_ _ _ (by simp))
  have HW1:=zh hW1
  have k1:=B1.out.cell 1
  have k2:=B1.out.cell 2
  simp only[zG] at k1 k2
  clear hW1
  go_enter Tryz.func192,Tryz.ntmps192
  go_upto_region 1 with fail
  rw[←HW1.out]
  clear HW1
  go_wp2_with fail
  refine(HWI.out _).mono ?_
  rintro e w2 ⟨rfl,E2⟩
  go_wp2
  go_ret
  exact⟨rfl,E1.trans E2⟩
 |true=>
  apply Exists.intro
  intro w
  obtain⟨W1,hW1⟩:=zn ((w.alloc (.cells (plA a n) 104)).alloc (.cells (opA o) 108))
  have E1:Ext w W1:=by rw[hW1];exact((Ext.refl _).alloc _).alloc _
  have B1:=zh (show Blk W1 (w.heap.size+1) 108 (opA o) by rw[hW1];exact Blk.at_ _ _ (by simp))
  have HW1:=zh hW1
  have k1:=B1.out.cell 1
  have k2:=B1.out.cell 2
  simp only[zG] at k1 k2
  clear hW1
  go_enter Tryz.func192,Tryz.ntmps192
  go_upto_region 1 with fail
  rw[←HW1.out]
  clear HW1
  go_wp2_with fail
  refine(HWI.out _).mono ?_
  rintro e w2 ⟨rfl,E2⟩
  have k2:=Zaa E2 k2
  go_wp2_with fail
  refine(HSI.out _).mono ?_
  rintro e w3 ⟨rfl,E3⟩
  go_wp2
  go_ret
  exact⟨rfl,(E1.trans E2).trans E3⟩
theorem ZsQ (a n:Int)(o:Po):ZgK 197 #[.agg (plA a n),.agg (opA o)]:=by
 obtain⟨q2,hs⟩:=ZoC o.a
 have HSI:=zh hs
 clear hs
 cases q2 with
 |false=>
  apply Exists.intro
  intro w
  obtain⟨W1,hW1⟩:=zn ((w.alloc (.cells (plA a n) 104)).alloc (.cells (opA o) 108))
  have E1:Ext w W1:=by rw[hW1];exact((Ext.refl _).alloc _).alloc _
  have B1:=zh (show Blk W1 (w.heap.size+1) 108 (opA o) by rw[hW1];exact Blk.at_ _ _ (by simp))
  have HW1:=zh hW1
  have k1:=B1.out.cell 1
  have k2:=B1.out.cell 2
  simp only[zG] at k1 k2
  clear hW1
  go_enter Tryz.func197,Tryz.ntmps197
  go_upto_region 1 with fail
  rw[←HW1.out]
  clear HW1
  go_wp2_with fail
  refine(HSI.out _).mono ?_
  rintro e w2 ⟨rfl,E2⟩
  go_wp2
  go_ret
  exact⟨rfl,E1.trans E2⟩
 |true=>
  apply Exists.intro
  intro w
  obtain⟨W1,hW1⟩:=zn ((w.alloc (.cells (plA a n) 104)).alloc (.cells (opA o) 108))
  have E1:Ext w W1:=by rw[hW1];exact((Ext.refl _).alloc _).alloc _
  have B1:=zh (show Blk W1 (w.heap.size+1) 108 (opA o) by rw[hW1];exact Blk.at_ _ _ (by simp))
  have HW1:=zh hW1
  have k1:=B1.out.cell 1
  have k2:=B1.out.cell 2
  simp only[zG] at k1 k2
  clear hW1
  go_enter Tryz.func197,Tryz.ntmps197
  go_upto_region 1 with fail
  rw[←HW1.out]
  clear HW1
  go_wp2_with fail
  refine(HSI.out _).mono ?_
  rintro e w2 ⟨rfl,E2⟩
  have k2:=Zaa E2 k2
  go_wp2_with fail
  refine(Zaz _ _ _ _).mono ?_
  rintro e w3 ⟨rfl,E3⟩
  go_wp2
  go_ret
  exact⟨rfl,(E1.trans E2).trans E3⟩
theorem Zqn (n:Int):ZgK 259 #[.int .i64 n]:=by
 have hi:(Tryz.prog.info? 39).map (·.size)=some t0.arr.size:=by kernel_rfl
 have HSET:=zh (fun w'=>Md.Zfy t0 n true w' ZpU)
 have HEQ:=zh (fun w'=>Md.Zri (Md.ZcV ZpU n true) ZpU w')
 obtain⟨q,hq⟩:=zm (decide (Md.setL t0 n true=t0))
 rw[hq] at HEQ
 clear hq
 obtain⟨cu,hcu⟩:=zm ((Md.setL t0 n true).arr)
 rw[hcu] at HSET HEQ
 clear hcu
 refine⟨!q,fun w=>?_⟩
 obtain⟨W1,hW1⟩:=zn (w.alloc (.cells #[.int .u8 0,.int .u8 0,.int .u8 0,.int .u8 0,.int .u8 0,.int .u8 0,.int .u8 0,.int .u8 0,.int .u8 0,.int .u8 0,.int .u8 0,.int .u8 0,.int .u8 0,.int .u8 0,.int .u8 0,.int .u8 0,.int .u8 0,.int .u8 0,.int .u8 0,.int .u64 0,.int .u32 0,.int .u32 0,.int .i64 0,.int .i64 0] 39))
 have E1:Ext w W1:=by rw[hW1];exact(Ext.refl _).alloc _
 have B1:=zh (show Blk W1 w.heap.size 39 t0.arr by rw[hW1,Zrj];exact Blk.new w _ _)
 have HW1:=zh hW1
 generalize t0.arr=c0 at*
 clear hW1
 go_enter Tryz.func259,Tryz.ntmps259
 go_upto_region 2 with fail
 rw[←HW1.out]
 clear HW1
 refine zg (fun w'=>Ext W1 w') zX fun hHeld=>?_
 (refine zU 0 rfl (Zac (by rfl) 39 _ rfl _ rfl 39 c0 _ _ (fun w' hSw=>(B1.out.ext hSw)) Tryz.underlying39 rfl hi) ?_)
 refine zr 1 ?_
 (refine zU 3 rfl (Zac (by rfl) 39 _ rfl _ rfl 39 c0 _ _ (fun w' hSw=>(B1.out.ext hSw)) Tryz.underlying39 rfl hi) ?_)
 (refine zc 2 (HSET.out _) ?_;rintro e w2 ⟨rfl,E2⟩ K hK;refine zo hK zX fun hHeld=>?_;clear hK K)
 (refine zT (i:=4) (v:=.bool (!q)) rfl (Md.Zck (by rfl) 39 _ _ rfl cu c0 rfl rfl q (!q) rfl Md.Zne HEQ.out) ?_;(try simp only[zP]))
 refine zr 5 ?_
 refine zd ?_
 go_wp2
 go_ret
 exact⟨rfl,zX⟩
theorem ZsR (a n:Int)(o:Po):ZgK 199 #[.agg (plA a n),.agg (opA o)]:=by
 obtain⟨q2,hs⟩:=Zqn o.a
 have HSI:=zh hs
 clear hs
 cases q2 with
 |false=>
  apply Exists.intro
  intro w
  obtain⟨W1,hW1⟩:=zn ((w.alloc (.cells (plA a n) 104)).alloc (.cells (opA o) 108))
  have E1:Ext w W1:=by rw[hW1];exact((Ext.refl _).alloc _).alloc _
  have B1:=zh (show Blk W1 (w.heap.size+1) 108 (opA o) by rw[hW1];exact Blk.at_ _ _ (by simp))
  have HW1:=zh hW1
  have k1:=B1.out.cell 1
  have k2:=B1.out.cell 2
  simp only[zG] at k1 k2
  clear hW1
  go_enter Tryz.func199,Tryz.ntmps199
  go_upto_region 1 with fail
  rw[←HW1.out]
  clear HW1
  go_wp2_with fail
  refine(HSI.out _).mono ?_
  rintro e w2 ⟨rfl,E2⟩
  go_wp2
  go_ret
  exact⟨rfl,E1.trans E2⟩
 |true=>
  apply Exists.intro
  intro w
  obtain⟨W1,hW1⟩:=zn ((w.alloc (.cells (plA a n) 104)).alloc (.cells (opA o) 108))
  have E1:Ext w W1:=by rw[hW1];exact((Ext.refl _).alloc _).alloc _
  have B1:=zh (show Blk W1 (w.heap.size+1) 108 (opA o) by rw[hW1];exact Blk.at_ _ _ (by simp))
  have HW1:=zh hW1
  have k1:=B1.out.cell 1
  have k2:=B1.out.cell 2
  simp only[zG] at k1 k2
  clear hW1
  go_enter Tryz.func199,Tryz.ntmps199
  go_upto_region 1 with fail
  rw[←HW1.out]
  clear HW1
  go_wp2_with fail
  refine(HSI.out _).mono ?_
  rintro e w2 ⟨rfl,E2⟩
  have k2:=Zaa E2 k2
  go_wp2_with fail
  refine(Zaz _ _ _ _).mono ?_
  rintro e w3 ⟨rfl,E3⟩
  go_wp2
  go_ret
  exact⟨rfl,(E1.trans E2).trans E3⟩
theorem dact (a n:Int)(o:Po):ZgK 196 #[.agg (plA a n),.agg (opA o)]:=by
 have HA:=zh (fun w'=>Sg.ZpS Sg.zero32 o.a o.b w' rfl)
 obtain⟨cu,hcu⟩:=zm (Sg.arrV (Sg.actL Sg.zero32 o.a o.b).1)
 obtain⟨x,hx⟩:=zm ((Sg.actL Sg.zero32 o.a o.b).2)
 rw[hcu,hx] at HA
 have hz:Hid (cu.size=32):=zh (by
  rw[←hcu]
  refine Sg.Zcx ?_
  unfold Sg.actL
  split<;>simp[Sg.zero32])
 have hi:(Tryz.prog.info? 232).map (·.size)=some cu.size:=by rw[hz.out];exact Sg.ZdX
 have h1:cu.all (·.oneCell')=true:=by rw[←hcu];exact Sg.ZdW _
 have hb:=Znf
 generalize Sg.arrV Sg.zero32=cz at*
 clear hcu hx
 apply Exists.intro
 intro w
 obtain⟨W1,hW1⟩:=zn ((w.alloc (.cells (plA a n) 104)).alloc (.cells (opA o) 108))
 have E1:Ext w W1:=by rw[hW1];exact((Ext.refl _).alloc _).alloc _
 have B1:=zh (show Blk W1 (w.heap.size+1) 108 (opA o) by rw[hW1];exact Blk.at_ _ _ (by simp))
 have HW1:=zh hW1
 have k1:=B1.out.cell 1
 have k2:=B1.out.cell 2
 simp only[zG] at k1 k2
 clear hW1
 go_enter Tryz.func196,Tryz.ntmps196
 go_upto_region 1 with fail
 rw[←HW1.out]
 clear HW1
 go_wp2_with(first
  |(refine wpList_build_eq rfl 232 _ rfl (L:=cz) (by simp[go_sem];exact hb) ?_)
  |(go_at_call 258;refine(HA.out _).mono ?_;rintro e w2 ⟨rfl,E2⟩)
  |(refine wpList_store_A rfl 232 _ _ rfl w2.heap.size cu rfl rfl 232 _ (Blk.at_ _ _ rfl) hi (by rw[hz.out];rfl) h1 ?_;intro w3 H3 E3;have E3:Ext w2 w3:=E3 w2.heap.size w2 ((Ext.refl _).alloc _) (Nat.le_refl _)))
 go_ret
 exact⟨rfl,(E1.trans E2).trans E3⟩
end Go.Proofs.YtmmhcllibpmfnaaGreatDoor
