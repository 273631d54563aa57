/- Parts EH28. No condition. -/
import Derived.Test.YtmmhcllibpmfnaaGreatDoorYB16
set_option maxRecDepth 100000
set_option maxHeartbeats 8000000
namespace Go.Proofs.YtmmhcllibpmfnaaGreatDoor
open Go.RowKit Go.Kb Go.Kb.Frame
structure RqRaw (r:Rq):Prop where
 bs:Bs r.mo
 c1:0≤r.c1∧r.c1≤4294967295
 c2:0≤r.c2∧r.c2≤4294967295
 c3:0≤r.c3∧r.c3≤4294967295
 c4:0≤r.c4∧r.c4≤4294967295
 co:0≤r.co∧r.co≤4294967295
theorem ZeD (lv rv:Value)(l:List (ByteArray×List Po))(rs:List Rq)(w:World)(hl:RdY PqR (fun _=>True) w lv l)(hf:ZlH l)(hz:∀d∈l,d.1.size≤9223372036854775807)(hr:RdY RqR (fun _=>True) w rv rs)(hraw:∀r∈rs,RqRaw r):
 Calls Tryz.prog 3 #[lv,rv] w fun e w'=>e= .returned (.bool true)∧Ext w w':=by
 have hiQ:=zi Tryz.prog 46 11
 have hiSA:∀ (s:Sn) (ev:Value),s.t.Ok→(Tryz.prog.info? 42).map (·.size)=some (sesV s ev).size:=fun s ev h=>by rw[List.size_toArray,sesC_len h];kernel_rfl
 have hiA:=zi Tryz.prog 51 8
 have HL:=zh hl
 have HF:=zh hf
 have HZ:=zh hz
 have HRAW:=zh hraw
 obtain⟨Ar,cr,rfl,hc1,hc2⟩:=hr.shape
 have HR:=zh hr
 obtain⟨n,hn⟩:=zm (rs.length)
 rw[hn] at HR hc1⊢
 have HN:=zh hn
 clear hl hf hz hraw hr hn
 go_enter Tryz.func3,Tryz.ntmps3
 go_wp2_with fail
 refine(Zjh _).mono ?_
 rintro e w1 ⟨rfl,E1⟩
 have HE1:=zh E1
 clear E1
 go_wp2_with fail
 refine(ZhP _ l w1 (HL.out.ext HE1.out) HF.out).mono ?_
 rintro e w2 ⟨q,rfl,E2⟩
 have HE2:=zh (HE1.out.trans E2)
 clear E2 HE1
 cases q with
 |true=>
  go_wp2_with(first|(refine wpList_openG rfl rfl ?_)|fail)
  go_ret
  exact⟨rfl,HE2.out⟩
 |false=>
 by_cases h30:(30:Int)<n
 ·go_wp2_with(first|(refine wpList_openG rfl rfl ?_)|fail)
  go_ret
  exact⟨rfl,HE2.out⟩
 have h30n:n≤30:=by omega
 have hd30:decide ((30:Int)<(n:Int))=false:=decide_eq_false h30
 go_wp2_with(first|(refine wpList_openG rfl rfl ?_)|fail)
 refine(Zr3 _ l w2 (HL.out.ext HE2.out) HF.out).mono ?_
 rintro e w3 ⟨u3,rfl,R3,E3⟩
 have HE3:=zh (HE2.out.trans E3)
 have HCK:=zh (Zix u3 l w3 R3 HZ.out)
 unfold Zsn at HCK
 clear E3 HE2 R3
 go_wp2_with(first|(refine wpList_openG rfl rfl ?_)|fail)
 refine(HCK.out).mono ?_
 rintro e w4 ⟨x,rfl,hx,E4⟩
 have HE4:=zh (HE3.out.trans E4)
 clear E4 HE3 HCK
 by_cases hx0:x=0
 ·have HOK:=zh (hx.1 hx0)
  subst hx0
  have HOP:=zh (ZgT lv l w4 (HL.out.ext HE4.out) HF.out HZ.out)
  unfold ZqF at HOP
  clear hx
  go_wp2_with(first|(refine wpList_openG rfl rfl ?_)|fail)
  refine(HOP.out).mono ?_
  rintro e w5 (⟨rfl,hno,E5⟩|⟨-,g,kb,base,Ak,ck,rfl,hb5,hsv,E5⟩)
  ·exact absurd HOK.out hno
  have HE5:=zh (HE4.out.trans E5)
  have HB5:=zh (show w.heap.size≤base by have:=HE4.out.size;omega)
  obtain⟨ns,hns⟩:=zm (l.map (·.1))
  rw[hns] at hsv
  have HNS:=zh hns
  obtain⟨kv,hkv⟩:∃kv:Value,.slice Ak ns.length ck=kv:=⟨_,rfl⟩
  rw[hkv] at hsv
  have HKV:=zh hkv
  have HSV:=zh hsv
  obtain⟨W6,hW6⟩:=zn (w5.alloc (.cells ses0.toArray 42))
  have E56:Ext w5 W6:=by rw[hW6];exact(Ext.refl _).alloc _
  have B6:=zh (show Blk W6 w5.heap.size 42 (sesV sn0 (.slice none 0 0)) by rw[hW6];exact Blk.new w5 _ _)
  have HW6:=zh (show W6=_ from hW6)
  have HE6:=zh (HE5.out.trans E56)
  have HS6:=zh (HSV.out.ext E56)
  have HN7:=zh (show w.heap.size≤w5.heap.size from HE5.out.size)
  clear hsv hns hkv E5 hb5 HOP HE4 HE5 HSV E56 hW6
  go_upto_region 9 with fail
  change Code.wp _ _ _ _ (w5.alloc (.cells ses0.toArray 42))
  rw[←HW6.out]
  clear HW6
  obtain⟨n7,hn7⟩:=zm (w5.heap.size)
  rw[hn7] at B6 HN7⊢
  clear hn7
  have HRP:=zh (show RpAt g kb base w.heap.size n7 ns kv [] (.slice none 0 0) (.slice none 0 0) W6 from⟨OwnS.nil _ _ _ _ _,OwnS.nil _ _ _ _ _,⟨_,B6.out,OwnS.nil _ _ _ _ _⟩,HS6.out⟩)
  clear B6 HS6
  go_wp2
  go_loopw [8,9,44] (fun sv tv i wr=>∃ (m:Nat) (L:List Rq),m≤n∧L.length≤m∧i= .int .i64 m∧Hid (∀r∈L,RqG r)∧Hid (RpAt g kb base w.heap.size n7 ns kv L sv tv wr)∧Hid (Ext w wr)) (fun _ _ i _=>n - (intOf i).toNat)
  case atStart=>exact⟨0,[],Nat.zero_le _,Nat.le_refl _,rfl,zh (by simp),HRP,HE6⟩
  case round=>
   clear HRP HE6
   obtain⟨m,L,hm,hLm,rfl,HLG,HRP,hE⟩:=hrel
   by_cases hlt:m<n
   ·obtain⟨b,off,c2,d,cs,hv,hd,hrel2,hlen,hcell⟩:=HR.out.cells (j:=m) (by rw[HN.out];exact hlt)
    simp only[Value.slice.injEq] at hv
    obtain⟨rfl,-,rfl⟩:=hv
    obtain⟨v,hcs,hdv⟩:=hrel2.out
    obtain⟨Av,cv,rfl,-,-⟩:=hdv.shape
    subst hcs
    have HRW:=zh (HRAW.out d (List.mem_of_getElem? hd.out))
    have HDV:=zh hdv
    obtain⟨mn,hmn⟩:=zm (d.mo.length)
    have HMN:=zh hmn
    rw[hmn] at hcell HDV
    have HCELL:=zh (show wr.rangeAt b (off+m*11) [.int .i64 d.k,.string d.tx,.string d.vl,.string d.la,.int .u32 d.c1,.int .u32 d.c2,.int .u32 d.c3,.int .u32 d.c4,.slice Av mn cv,.bool d.on,.int .u32 d.co] from fun i u hu=>Zaa hE.out (hcell i u hu))
    have hiQL:(Tryz.prog.info? 46).map (·.size)=some [Value.int .i64 d.k,.string d.tx,.string d.vl,.string d.la,.int .u32 d.c1,.int .u32 d.c2,.int .u32 d.c3,.int .u32 d.c4,.slice Av mn cv,.bool d.on,.int .u32 d.co].length:=hiQ
    have B8:=zh (Blk.new wr 46 #[.int .i64 0,.string ⟨#[]⟩,.string ⟨#[]⟩,.string ⟨#[]⟩,.int .u32 0,.int .u32 0,.int .u32 0,.int .u32 0,.slice none 0 0,.bool false,.int .u32 0])
    clear hcell hlen hrel2 hdv hmn
    go_upto_region 14 with(first|(refine wpList_load_mid rfl 46 _ rfl b (off+m*11) rfl [.int .i64 d.k,.string d.tx,.string d.vl,.string d.la,.int .u32 d.c1,.int .u32 d.c2,.int .u32 d.c3,.int .u32 d.c4,.slice Av mn cv,.bool d.on,.int .u32 d.co] _ HCELL.out Tryz.underlying46 rfl hiQL ?_)|(refine wpList_store_M rfl 46 _ _ rfl wr.heap.size _ rfl rfl 46 _ B8.out hiQ rfl (by simp[Value.oneCell']) ?_;intro w6 P6 M6))
    (try simp only[zP])
    have E6:Ext wr w6:=Mod.toExt ((Ext.refl _).alloc _) M6 (fun k hk he=>by omega)
    have P6:=zh (show Blk w6 wr.heap.size 46 (rqA d (.slice Av mn cv)) from P6)
    have HRP6:=zh (HRP.out.ext E6)
    have hE6:=zh (hE.out.trans E6)
    obtain⟨n11,hn11⟩:=zm (wr.heap.size)
    rw[hn11] at P6⊢
    clear M6 B8 HCELL E6 hn11 HRP hE
    have HGR:=zh (Zje d Av cv w6)
    rw[HMN.out] at HGR
    unfold GqP at HGR
    go_wp2_with(first|(refine wpList_load_row rfl 46 _ rfl _ rfl 46 _ _ _ P6.out Tryz.underlying46 rfl hiQ ?_)|fail)
    refine(HGR.out).mono ?_
    rintro e w7 ⟨qg,rfl,hqg,E7⟩
    have HRP7:=zh (HRP6.out.ext E7)
    have hE7:=zh (hE6.out.trans E7)
    have P7:=zh (P6.out.ext E7)
    clear HGR E7 P6 HRP6 hE6
    cases qg with
    |true=>
     go_wp2
     go_ret
     exact⟨rfl,hE7.out⟩
    |false=>
     obtain⟨g1,g2,g3,g4⟩:=hqg rfl
     have HDK:=zh (show d.Ok from⟨g1,g2,g3,g4,HRW.out.bs,HRW.out.c1,HRW.out.c2,HRW.out.c3,HRW.out.c4,HRW.out.co⟩)
     clear hqg g1 g2 g3 g4
     have HENC:=zh (Zej d (.slice Av mn cv) w7 ((HDV.out.ext hE7.out).lt.mono (fun j _ hj=>hj.2)) HDK.out)
     unfold Zrf at HENC
     go_wp2_with(first|(refine wpList_load_row rfl 46 _ rfl _ rfl 46 _ _ _ P7.out Tryz.underlying46 rfl hiQ ?_)|fail)
     refine(HENC.out).mono ?_
     rintro e w8 ⟨nm,u,q,rfl,E8,hq0,-,-⟩
     have HRP8:=zh (HRP7.out.ext E8)
     have hE8:=zh (hE7.out.trans E8)
     have P8:=zh (P7.out.ext E8)
     clear HENC E8 P7 HRP7 hE7
     by_cases hqz:q=0
     ·subst hqz
      obtain⟨k,hk,h1,h10,rfl,ha,hown⟩:=hq0 rfl
      have HG:=zh (show RqG d from⟨HDK.out,by omega,by omega,ha⟩)
      obtain rfl:k=kQ d:=by unfold kQ;omega
      have HU:=zh hown
      clear hq0 hk h1 h10 ha hown
      go_upto_region 19 with fail
      obtain⟨W9,hW9⟩:=zn (w8.alloc (.cells (acV acN) 51))
      have E89:Ext w8 W9:=by rw[hW9];exact(Ext.refl _).alloc _
      have B15:=zh (show Blk W9 w8.heap.size 51 (acV acN) by rw[hW9];exact Blk.new w8 _ _)
      have HW9:=zh (show W9=_ from hW9)
      change Code.wp _ _ _ _ (w8.alloc (.cells (acV acN) 51))
      rw[←HW9.out]
      clear HW9 hW9
      obtain⟨n15,hn15⟩:=zm (w8.heap.size)
      rw[hn15] at B15⊢
      have hE9:=zh (hE8.out.trans E89)
      have HV15:=zh (show w.heap.size≤n15 by rw[←hn15];exact hE8.out.size)
      have HRP9:=zh (HRP8.out.ext E89)
      have HU9:=zh (HU.out.ext E89)
      have P9:=zh (P8.out.ext E89)
      obtain⟨ev,hB7,hV⟩:=HRP9.out.ses
      have HB7:=zh hB7
      have HV:=zh hV
      have hSR:=Zqu ns L sn0 ZrN HLG.out
      have HREF:=zh (fun w' (E:Ext W9 w')=>ZoG lv l w' ((HL.out.ext hE9.out).ext E) HF.out)
      have HASK:=zh (fun(w':World) (E:Ext W9 w') (u8:Value) (R:RdY PqR (fun _=>True) w' u8 l)=>by
       have h9:=Zof (A:=fun _=>True) (stQ ns sn0 L) ev u u8 d l (kQ d) w' hSR.ok ((HV.out.ext E).rdT.y) (RdS.ri (HU9.out.ext E).rdT) HG.out.k.1 HG.out.k.2.1 HG.out.k.2.2 HG.out.a HG.out.ok R
       rw[HNS.out] at h9
       exact h9)
      have HQR:=zh (ZfJ (ns:=ns) (s:=stQ ns sn0 L) (r:=ownQ d (kQ d)) hSR.ok (Ziw HG.out.ok (kQ d)).mo (kQ d))
      unfold ZqC at HASK
      obtain⟨⟨qs,qa⟩,hq⟩:∃q:Sn×Ac,ZfM ns (stQ ns sn0 L) (ownQ d (kQ d)) (kQ d)=q:=⟨_,rfl⟩
      rw[hq] at HASK HQR
      dsimp only at HASK HQR
      have HQQ:=zh hq
      have hiL:(Tryz.prog.info? 42).map (·.size)=some (sesC (stQ ns sn0 L) ev).length:=by
       have h9:=hiSA (stQ ns sn0 L) ev hSR.ok.t
       rwa [List.size_toArray] at h9
      have hne:n7≠n15:=fun h9=>Zap HB7.out B15.out (by decide) h9
      have hST:=zh hSR.ok.t
      clear hB7 hV hSR HRP8 hE8 P8 HU E89 hq hn15
      go_cut [] (fun wx=>∃ev2,Hid (Blk wx n7 42 (sesV qs ev2))∧Hid (Blk wx n15 51 (acV qa))∧Hid (OwnS Zbc 128 w.heap.size (fun _=>False) wx ev2 qs.env)∧Hid (Mod (fun k=>k=n7∨k=n15) W9 wx))
      case first=>
       refine zg (fun w'=>Mod (fun k=>k=n7∨k=n15) W9 w') (Mod.of_ext (Ext.drew (Ext.refl _))) fun hHeld=>?_
       obtain⟨D,hD⟩:=zn (W9.drew)
       have ED:Ext W9 D:=by rw[hD];exact(Ext.refl _).drew
       rw[←hD] at hHeld⊢
       clear hD
       refine zr 1 ?_
       refine zr 2 ?_
       refine zr 3 ?_
       refine wpAnyH_ready (rs:=[0,4]) (by kernel_rfl) (by simp) ?_
       refine(AllReadyH.cons rfl (fun K hK=>?_) (AllReadyH.cons rfl (fun K hK=>?_) AllReadyH.nil))
       ·
        rw[if_pos (by rfl)]
        refine wp_load_mid 42 _ rfl n7 0 rfl (sesC (stQ ns sn0 L) ev) _ (fun i u hu=>by rw[Nat.zero_add];exact Zak (HB7.out.ext ED) (by rw[List.getElem?_toArray];exact hu)) Tryz.underlying42 rfl hiL ?_
        refine zo hK hHeld fun hHeld=>?_
        clear hK K
        (refine zc 4 (HREF.out D ED) ?_;rintro e w10 ⟨u10,rfl,R10,E10⟩ K hK;refine zo hK (Mod.of_ext (ED.trans E10)) fun hHeld=>?_;clear hK K)
        have ED10:=zh (ED.trans E10)
        have R10:=zh R10
        clear ED E10
        (refine zc 5 (HASK.out w10 ED10.out u10 R10.out) ?_;rintro e w11 ⟨ev2,rfl,OV,E11⟩ K hK;refine zo hK (Mod.of_ext (ED10.out.trans E11)) fun hHeld=>?_;clear hK K)
        have E911:=zh (ED10.out.trans E11)
        have OV:=zh (OV.lower (base':=w.heap.size) (Nat.le_trans hE9.out.size ED10.out.size))
        clear E11 ED10 R10
        refine zr 6 ?_
        refine zr 7 ?_
        refine zr 8 ?_
        (refine zw 9 fun K hK=>?_;rw[if_pos (by rfl)];refine Zag 42 _ _ rfl (n7) _ rfl rfl 42 _ (HB7.out.ext E911.out) (hiSA qs _ HQR.out.t) (by rw[List.size_toArray,List.size_toArray,sesC_len hST.out,sesC_len HQR.out.t]) (sesC_one _ _ (own_oc OV.out)) ?_;intro u4 B4 M4;refine zo hK ((Mod.of_ext E911.out).trans (M4.mono (fun k _ h=>Or.inl h))) fun hHeld=>?_;clear hK K)
        have M94:=zh hHeld
        have B15b:=zh ((B15.out.ext E911.out).mod M4 (fun h9=>hne h9.symm))
        have OV4:=zh (OV.out.mod M4 (fun k hk he=>Zai OV.out (HB7.out.ext E911.out) (by decide) (by rw[hk,he])) (fun k _ hk=>hk.elim))
        (refine zw 10 fun K hK=>?_;rw[if_pos (by rfl)];refine Zag 51 _ _ rfl (n15) _ rfl rfl 51 _ B15b.out hiA (by rfl) (ZhM qa) ?_;intro w12 B5 M5;refine zo hK (M94.out.trans (M5.mono (fun k _ h=>Or.inr h))) fun hHeld=>?_;clear hK K)
        have B7c:=zh (B4.mod M5 hne)
        have OV5:=zh (OV4.out.mod M5 (fun k hk he=>Zai OV4.out B15b.out (by decide) (by rw[hk,he])) (fun k _ hk=>hk.elim))
        refine zd ?_
        go_wp2_with fail
        go_meet
        exact⟨ev2,B7c,zh B5,OV5,zh hHeld⟩
       ·
        go_simp
        go_at_call 13
        refine(HREF.out D ED).mono ?_
        rintro e w10 ⟨u10,rfl,R10,E10⟩
        (try dsimp only)
        have ED10:=zh (ED.trans E10)
        have R10:=zh R10
        refine zo hK (Mod.of_ext ED10.out) fun hHeld=>?_
        clear hK K
        clear ED E10
        (refine zw 0 fun K hK=>?_;rw[if_pos (by rfl)];refine wp_load_mid 42 _ rfl n7 (0) rfl (sesC (stQ ns sn0 L) ev) _ (fun i u hu=>by rw[Nat.zero_add];exact Zak (HB7.out.ext ED10.out) (by rw[List.getElem?_toArray];exact hu)) Tryz.underlying42 rfl hiL ?_;refine zo hK hHeld fun hHeld=>?_;clear hK K)
        (refine zc 5 (HASK.out w10 ED10.out u10 R10.out) ?_;rintro e w11 ⟨ev2,rfl,OV,E11⟩ K hK;refine zo hK (Mod.of_ext (ED10.out.trans E11)) fun hHeld=>?_;clear hK K)
        have E911:=zh (ED10.out.trans E11)
        have OV:=zh (OV.lower (base':=w.heap.size) (Nat.le_trans hE9.out.size ED10.out.size))
        clear E11 ED10 R10
        refine zr 6 ?_
        refine zr 7 ?_
        refine zr 8 ?_
        (refine zw 9 fun K hK=>?_;rw[if_pos (by rfl)];refine Zag 42 _ _ rfl (n7) _ rfl rfl 42 _ (HB7.out.ext E911.out) (hiSA qs _ HQR.out.t) (by rw[List.size_toArray,List.size_toArray,sesC_len hST.out,sesC_len HQR.out.t]) (sesC_one _ _ (own_oc OV.out)) ?_;intro u4 B4 M4;refine zo hK ((Mod.of_ext E911.out).trans (M4.mono (fun k _ h=>Or.inl h))) fun hHeld=>?_;clear hK K)
        have M94:=zh hHeld
        have B15b:=zh ((B15.out.ext E911.out).mod M4 (fun h9=>hne h9.symm))
        have OV4:=zh (OV.out.mod M4 (fun k hk he=>Zai OV.out (HB7.out.ext E911.out) (by decide) (by rw[hk,he])) (fun k _ hk=>hk.elim))
        (refine zw 10 fun K hK=>?_;rw[if_pos (by rfl)];refine Zag 51 _ _ rfl (n15) _ rfl rfl 51 _ B15b.out hiA (by rfl) (ZhM qa) ?_;intro w12 B5 M5;refine zo hK (M94.out.trans (M5.mono (fun k _ h=>Or.inr h))) fun hHeld=>?_;clear hK K)
        have B7c:=zh (B4.mod M5 hne)
        have OV5:=zh (OV4.out.mod M5 (fun k hk he=>Zai OV4.out B15b.out (by decide) (by rw[hk,he])) (fun k _ hk=>hk.elim))
        refine zd ?_
        go_wp2_with fail
        go_meet
        exact⟨ev2,B7c,zh B5,OV5,zh hHeld⟩
      case rest=>
      obtain⟨ev2,B7c,B15c,OV5,MC⟩:=hcut
      obtain⟨w12,hw12⟩:=zn (wc)
      subst hw12
      have hHeld:=MC.out
      have M19:=zh (show ZaR [42,51] 0 W9 w12 from ZaR.of_mod hHeld (fun k _ hk=>hk.elim (fun hk=>by rw[hk];exact HB7.out.ty (by decide) (Nat.zero_le _)) (fun hk=>by rw[hk];exact B15.out.ty (by decide) (Nat.zero_le _))))
      have hE12:=zh (Mod.toExt hE9.out hHeld (fun k hk he=>he.elim (fun h9=>by have:=HN7.out;omega) (fun h9=>by have:=HV15.out;omega)))
      have SV:=zh (HRP9.out.sv.modT M19.out (by decide))
      have TV:=zh (HRP9.out.tv.modT M19.out (by decide))
      have SR:=zh (HRP9.out.srv.far (base2:=0) (M19.out.mono (by decide) (Nat.le_refl _)))
      have P12:=zh (P9.out.modT M19.out (by decide))
      clear hHeld MC HRP9 HB7 B15 HASK HREF P9 HU9 HV
      have c0:=B15c.out.cell 0
      simp only[List.getElem?_toArray,acC,List.getElem?_cons_zero] at c0
      have hL30:L.length≤30:=by omega
      have hz12:=hE12.out.size
      have HTR:=zh TV.out.row
      go_upto_region 21 with(at_builtin;refine wpList_app (e:=Rep.bool) (base:=w.heap.size) (B:=fun _=>False) (A:=fun _=>False) rfl (.tmp 67) (.tmp 70) rfl Tryz.underlying44 ZqG rfl (TV.out.alloc _) rfl (RdY.singleB (e:=Rep.bool) (cs:=[.bool qa.ok]) (d:=qa.ok) rfl (Blk.new _ _ _)) rfl (fun _ _ h=>h.elim) (N:=L.length+1) (by rw[Zd0];rfl) (by unfold maxLen;omega) (by omega) (by simp;omega) ?_;intro A9 c9 w13 o13 M13 _)
      have M1213:=(Mod.of_ext ((Ext.refl w12).alloc _)).trans M13
      have M13T:=zh (show ZaR [4] 0 w12 w13 from ZaR.of_mod M1213 (fun k _ hk=>TV.out.ty hk (by decide) (Nat.zero_le _)))
      have hE13:=zh (Mod.toExt hE12.out M1213 (fun k hk he=>by have:=(HTR.out k he).1;omega))
      have SV13:=zh (SV.out.modT M13T.out (by decide))
      have TV13:=zh (show OwnS Rep.bool 4 w.heap.size (fun _=>False) w13 (.slice A9 (L.length+1) c9) (ZiC ns sn0 (L++ [d])) from by
       rw[ZeA]
       rw[show(ZjK ns (stQ ns sn0 L) d).2.ok=qa.ok from by rw[show ZjK ns (stQ ns sn0 L) d=(qs,qa) from HQQ.out]]
       exact o13)
      have SR13:=zh (SR.out.far (base2:=0) (M13T.out.mono (by decide) (Nat.le_refl _)))
      have P13:=zh (P12.out.modT M13T.out (by decide))
      have B713:=zh (B7c.out.modT M13T.out (by decide))
      have OV13:=zh (OV5.out.modT M13T.out (by decide))
      have HAK:=zh (Zn3 d (.slice Av mn cv) w13 ((HDV.out.ext hE13.out).lt.mono (fun j _ hj=>hj.2)) HG.out)
      clear M1213 M13 M13T o13 TV SV SR P12 B7c OV5 c0 M19 B15c hE12 HTR hE9
      go_wp2_with(first|(refine wpList_load_row rfl 46 _ rfl _ rfl 46 _ _ _ P13.out Tryz.underlying46 rfl hiQ ?_)|fail)
      refine(HAK.out).mono ?_
      rintro e w14 ⟨u14,rfl,O14,E14⟩
      have SV14:=zh (SV13.out.ext E14)
      have TV14:=zh (TV13.out.ext E14)
      have SR14:=zh (SR13.out.ext E14)
      have B714:=zh (B713.out.ext E14)
      have OV14:=zh (OV13.out.ext E14)
      have hE14:=zh (hE13.out.trans E14)
      have O14:=zh (RI.y (A:=fun _=>False) (RdS.ri O14.rdT))
      have hlp:=ZiE L HLG.out
      have hlm:(pkM (msgR d)).length≤33796:=by
       have h8:=Zcg (msgR d)
       have h9:=(Za2 (ZbP HG.out).good).2
       omega
      have hz14:=hE14.out.size
      have HSRW:=zh SV14.out.row
      obtain⟨LP,hLP⟩:=zm ((pks (L.map msgR)).length)
      obtain⟨LM,hLM⟩:=zm ((pkM (msgR d)).length)
      have HLPM:=zh (show(pks (L.map msgR)).length+(pkM (msgR d)).length=LP+LM by rw[hLP,hLM])
      rw[hLP] at hlp
      rw[hLM] at hlm
      clear HAK E14 SV13 TV13 SR13 P13 B713 OV13 hE13 hLP hLM
      go_wp2_with(at_builtin;refine wpList_app (e:=Ub8) (base:=w.heap.size) (B:=fun _=>False) (A:=fun _=>False) rfl (.tmp 72) (.tmp 74) rfl Tryz.underlying43 ZaQ rfl SV14.out rfl O14.out rfl (fun _ _ h=>h.elim) (N:=LP+LM) HLPM.out (by unfold maxLen;omega) (by omega) (by omega) ?_;intro A10 c10 w15 o15 M15 _;have M15:=zh M15;have o15:=zh o15)
      have M15T:=zh (show ZaR [5] 0 w14 w15 from ZaR.of_mod M15.out (fun k _ hk=>SV14.out.ty hk (by decide) (Nat.zero_le _)))
      have hE15:=zh (Mod.toExt hE14.out M15.out (fun k hk he=>by have:=(HSRW.out k he).1;omega))
      have HRPN:=zh (show RpAt g kb base w.heap.size n7 ns kv (L++ [d]) (.slice A10 (LP+LM) c10) (.slice A9 (L.length+1) c9) w15 from⟨by rw[Zog];exact o15.out,TV14.out.modT M15T.out (by decide),⟨ev2,by
       rw[ZiD,show ZjK ns (stQ ns sn0 L) d=(qs,qa) from HQQ.out]
       exact⟨B714.out.modT M15T.out (by decide),OV14.out.modT M15T.out (by decide)⟩⟩,SR14.out.far (base2:=0) (M15T.out.mono (by decide) (Nat.le_refl _))⟩)
      have HLG2:=zh (show ∀r∈L++ [d],RqG r from fun r hr=>by
       rcases List.mem_append.1 hr with h|h
       ·exact HLG.out r h
       ·rw[List.mem_singleton.1 h];exact HG.out)
      clear M15 M15T o15 SV14 TV14 SR14 B714 OV14 hE14
      go_roundw
      case rel=>exact⟨m+1,L++ [d],by omega,by simp;omega,by go_num,HLG2,HRPN,hE15⟩
      case measure=>simp[intOf];omega
     ·have hqb:(q==0)=false:=by simpa using hqz
      have hqn:(q !=0)=true:=by simpa using hqz
      clear hq0
      go_wp2
      go_roundw
      case rel=>exact⟨m+1,L,by omega,by omega,by go_num,HLG,HRP8,hE8⟩
      case measure=>simp[intOf];omega
   ·obtain rfl:m=n:=by omega
    have hL30:L.length≤30:=by omega
    have HFD:=zh (ZjL g kb base ns Ak ck none sn0 (.slice none 0 0) L u8 wr (by rw[HKV.out];exact HRP.out.srv) ZrN HLG.out hL30 (RdS.ri HRP.out.sv.rdT))
    unfold WdO at HFD
    go_wp2_with fail
    refine(HFD.out).mono ?_
    rintro e w6 ⟨ov,S6,rfl,O6,-,-,V6⟩
    have hE6:=zh (V6.fresh hE.out HB5.out)
    have TV6:=zh (HRP.out.tv.mod V6 (fun k hk he=>he.elim (fun h9=>HRP.out.tv.nty hk (by decide) h9) (fun h9=>by cases h9)) (fun _ _ hk=>hk.elim))
    obtain⟨oks,hoks⟩:=zm (ZiC ns sn0 L)
    have hol:oks.length≤30:=by rw[←hoks,Zd0];exact hL30
    rw[hoks] at O6 TV6
    have HRD:=zh (ZiA (ZgZ oks) ov w6 (RdS.ri O6.rdT) (fun x hx=>by
     obtain⟨ok,-,rfl⟩:=List.mem_map.1 hx
     exact ZqD ⟨by decide,by decide⟩) (by simp[ZgZ];omega))
    unfold ZoF at HRD
    clear HFD HRP hE O6 V6 hoks
    go_wp2_with fail
    refine(HRD.out).mono ?_
    rintro e w7 ⟨u7,rfl,O7,E7⟩
    have hE7:=zh (hE6.out.trans E7)
    have TV7:=zh (TV6.out.ext E7)
    obtain⟨A7,c7,rfl,-,-⟩:=O7.shape
    obtain⟨At,ct,rfl,-,-⟩:=TV7.out.shape
    obtain⟨N,hN⟩:=zm (oks.length)
    have hN2:((ZgZ oks).map rM).length=N:=by simp[ZgZ,hN]
    have O7:=zh O7
    rw[hN2] at O7⊢
    rw[hN] at TV7⊢
    have hN30:N≤30:=by rw[←hN];exact hol
    clear HRD TV6 hE6 E7 hN hN2
    go_wp2_with(first|(refine wpList_openG rfl rfl ?_)|fail)
    go_loopw [95] (fun i wr=>∃j:Nat,j≤N∧i= .int .i64 j∧Hid (Ext w7 wr)) (fun i _=>N - (intOf i).toNat)
    case atStart=>exact⟨0,Nat.zero_le _,rfl,zh (Ext.refl _)⟩
    case round=>
     obtain⟨j,hj,rfl,hx⟩:=hrel
     by_cases hjn:j<N
     ·obtain⟨b2,off2,m2,A2,c2,rfl,hra,hd2,-⟩:=Zpc (n:=N) (O7.out.ext hx.out).rdT.y hjn
      obtain⟨b3,off3,ub,ok,rfl,hcb,hd3,hr3⟩:=(TV7.out.ext hx.out).rdT.y.at1 rfl hjn
      obtain rfl:ub= .bool ok:=by
       have h9: [ub]=[.bool ok]:=hr3.out
       simpa using h9
      have hm2:m2=rM (ansM (ansK ok) ch5):=by
       have h9:=hd2.out
       unfold ZgZ at h9
       rw[List.map_map,List.getElem?_map,hd3.out] at h9
       exact(Option.some.inj h9).symm
      have hm3:m2=⟨if ok then 99 else 100,50,0,0,0,0,⟨#[]⟩,⟨#[]⟩,false,[]⟩:=by
       rw[hm2]
       cases ok<;>simp[rM,ansM,ansK,ch5]
      subst hm3
      have HRA:=zh (show wr.rangeAt b2 (off2+j*10) [.int .i64 (if ok then 99 else 100),.int .u32 50,.int .u32 0,.int .u32 0,.int .u32 0,.int .u32 0,.string ⟨#[]⟩,.string ⟨#[]⟩,.bool false,.slice A2 0 c2] from hra.out)
      obtain⟨kk,hkk⟩:∃kk:Int,(if ok then(99:Int) else 100)=kk:=⟨_,rfl⟩
      rw[hkk] at HRA
      have HKK:=zh hkk
      have hj64:(j:Int)<(N:Int):=by omega
      have hiM:(Tryz.prog.info? 62).map (·.size)=some [Value.int .i64 kk,.int .u32 50,.int .u32 0,.int .u32 0,.int .u32 0,.int .u32 0,.string ⟨#[]⟩,.string ⟨#[]⟩,.bool false,.slice A2 0 c2].length:=by kernel_rfl
      have hiM2:=zi Tryz.prog 62 10
      have B8:=zh (Blk.new wr 62 #[.int .i64 0,.int .u32 0,.int .u32 0,.int .u32 0,.int .u32 0,.int .u32 0,.string ⟨#[]⟩,.string ⟨#[]⟩,.bool false,.slice none 0 0])
      clear hra hd2 hr3 hm2 hkk
      go_upto_region 29 with(first|(refine wpList_load_mid rfl 62 _ rfl b2 (off2+j*10) rfl [.int .i64 kk,.int .u32 50,.int .u32 0,.int .u32 0,.int .u32 0,.int .u32 0,.string ⟨#[]⟩,.string ⟨#[]⟩,.bool false,.slice A2 0 c2] _ HRA.out Tryz.underlying62 rfl hiM ?_)|(refine wpList_store_M rfl 62 _ _ rfl wr.heap.size _ rfl rfl 62 _ B8.out hiM2 rfl (by simp[Value.oneCell']) ?_;intro w8 P8 M8))
      (try simp only[zP])
      have E8:Ext wr w8:=Mod.toExt ((Ext.refl _).alloc _) M8 (fun k hk he=>by omega)
      have P8:=zh P8
      obtain⟨n19,hn19⟩:=zm (wr.heap.size)
      rw[hn19] at P8⊢
      have hx8:=zh (hx.out.trans E8)
      have hcb:=Zaa E8 hcb
      have p0:=P8.out.cell 0
      have p1:=P8.out.cell 1
      simp only[zG] at p0 p1
      clear B8 M8 E8 hn19 HRA
      have hj0:(0:Int)≤(j:Int):=by omega
      cases ok with
      |true=>
       obtain rfl:(99:Int)=kk:=HKK.out
       refine zg (fun w'=>Ext w8 w') (Ext.drew (Ext.refl _)) fun hHeld=>?_
       obtain⟨D,hD⟩:=zn (w8.drew)
       have ED:Ext w8 D:=by rw[hD];exact(Ext.refl _).drew
       rw[←hD] at hHeld⊢
       clear hD
       refine zr 0 ?_
       refine zv 1 p1 ?_
       refine zr 2 ?_
       refine zr 3 ?_
       refine zr 4 ?_
       refine zv 5 p0 ?_
       refine zr 6 ?_
       refine zr 7 ?_
       refine zr 8 ?_
       refine zr 9 ?_
       refine zv 10 hcb ?_
       refine zr 11 ?_
       refine zr 12 ?_
       refine zr 13 ?_
       refine zr 14 ?_
       refine zv 15 p0 ?_
       refine zr 16 ?_
       refine zr 17 ?_
       refine zr 18 ?_
       refine zr 19 ?_
       refine zv 20 hcb ?_
       refine zr 21 ?_
       refine zr 22 ?_
       refine zd ?_
       have hxD:=zh (hx8.out.trans ED)
       clear hHeld ED hx8 p0 p1
       go_wp2
       go_roundw
       case rel=>exact⟨j+1,by omega,by go_num,hxD⟩
       case measure=>simp[intOf];omega
      |false=>
       obtain rfl:(100:Int)=kk:=HKK.out
       refine zg (fun w'=>Ext w8 w') (Ext.drew (Ext.refl _)) fun hHeld=>?_
       obtain⟨D,hD⟩:=zn (w8.drew)
       have ED:Ext w8 D:=by rw[hD];exact(Ext.refl _).drew
       rw[←hD] at hHeld⊢
       clear hD
       refine zr 0 ?_
       refine zv 1 p1 ?_
       refine zr 2 ?_
       refine zr 3 ?_
       refine zr 4 ?_
       refine zv 5 p0 ?_
       refine zr 6 ?_
       refine zr 7 ?_
       refine zr 8 ?_
       refine zr 9 ?_
       refine zv 10 hcb ?_
       refine zr 11 ?_
       refine zr 12 ?_
       refine zr 13 ?_
       refine zr 14 ?_
       refine zv 15 p0 ?_
       refine zr 16 ?_
       refine zr 17 ?_
       refine zr 18 ?_
       refine zr 19 ?_
       refine zv 20 hcb ?_
       refine zr 21 ?_
       refine zr 22 ?_
       refine zd ?_
       have hxD:=zh (hx8.out.trans ED)
       clear hHeld ED hx8 p0 p1
       go_wp2
       go_roundw
       case rel=>exact⟨j+1,by omega,by go_num,hxD⟩
       case measure=>simp[intOf];omega
     ·go_wp2
      go_ret
      exact⟨rfl,hE7.out.trans hx.out⟩
 ·have hxb:(x==0)=false:=by simpa using hx0
  have hxn:(x !=0)=true:=by simpa using hx0
  go_wp2_with(first|(refine wpList_openG rfl rfl ?_)|fail)
  go_ret
  exact⟨rfl,HE4.out⟩
end Go.Proofs.YtmmhcllibpmfnaaGreatDoor
