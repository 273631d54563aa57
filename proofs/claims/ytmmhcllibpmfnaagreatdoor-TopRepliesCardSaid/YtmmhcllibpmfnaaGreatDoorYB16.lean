/- Parts DG28 EF28 QX28 EG28. No condition. -/
import Derived.Test.YtmmhcllibpmfnaaGreatDoorYB07
import Derived.Test.YtmmhcllibpmfnaaGreatDoorYB08
import Derived.Test.YtmmhcllibpmfnaaGreatDoorYB13
import Derived.Test.YtmmhcllibpmfnaaGreatDoorYB14
import Derived.Test.YtmmhcllibpmfnaaGreatDoorYB15
import Derived.ChangeOld
import Derived.Deep.Slices
import Derived.Lib.SmallJoins
import Derived.OpenShut
import Derived.ProofKit
import Derived.ShutString
import Derived.SizedLaws
set_option maxRecDepth 100000
set_option maxHeartbeats 8000000
namespace Go.Proofs.YtmmhcllibpmfnaaGreatDoor
open Go.RowKit Go.Kb
theorem Zsb {s:Sn}{ev:Value}:(sesV s ev)[0]?=some (.bool s.pty):=rfl
theorem ZgS {s:Sn}{ev:Value}(h:s.t.Ok):(sesV s ev)[31]?=some (.bool s.st):=by
 have h6:(Zcc s).length=6:=rfl
 rw[List.getElem?_toArray,sesC,List.getElem?_append_right (by omega),List.getElem?_append_right (by rw[Md.Tm.len h,h6];omega),Md.Tm.len h,h6]
 rfl
theorem ZlU {s:Sn}{ev:Value}{b:Bool}(h:s.t.Ok):(sesV s ev).setIfInBounds 31 (.bool b)=sesV {s with st:=b} ev:=by
 have h6:(Zcc s).length=6:=rfl
 rw[List.setIfInBounds_toArray,sesC,List.set_append_right _ _ (by omega),List.set_append_right _ _ (by rw[Md.Tm.len h,h6];omega),Md.Tm.len h,h6]
 rfl
theorem Zob {s:Sn}{ev:Value}{b:Bool}:(sesV s ev).setIfInBounds 0 (.bool b)=sesV {s with pty:=b} ev:=rfl
theorem Zoc {s:Sn}{ev:Value}{x:ByteArray}:(sesV s ev).setIfInBounds 1 (.string x)=sesV {s with term:=x} ev:=rfl
theorem Zsc {s:Sn}{ev:Value}{t2:Md.Tm}(h:s.t.Ok)(h2:t2.Ok):((sesV s ev).toList.take 6++t2.cells++ (sesV s ev).toList.drop (6+t2.cells.length)).toArray=sesV {s with t:=t2} ev:=by
 have e1:(sesV s ev).toList=Zcc s++ (s.t.cells++ [ev,.bool s.st]):=rfl
 have h6:(Zcc s).length=6:=rfl
 rw[e1,Md.Tm.len h2,List.take_append_of_le_length (by omega),List.take_of_length_le (by omega),List.drop_append,h6,List.drop_of_length_le (by omega),List.nil_append,List.drop_append,Md.Tm.len h,List.drop_of_length_le (by rw[Md.Tm.len h];omega),List.nil_append]
 show(Zcc s++t2.cells++ [ev,.bool s.st]).toArray=_
 rw[List.append_assoc]
 rfl
theorem Zsd (r:Rq)(k:Nat)(h1:1≤k)(h10:k≤10):(ownQ r k).k=(k:Int):=by
 rcases k with _|_|_|_|_|_|_|_|_|_|_|k
 ·omega
 all_goals first|rfl|omega
def ZqC (q:Sn×Ac)(w:World)(e:Ending)(w':World):Prop:=
 ∃ev',e= .returned (.tuple #[.agg (sesV q.1 ev'),.agg (acV q.2)])∧OwnS Zbc 128 w.heap.size (fun _=>False) w' ev' q.1.env∧Ext w w'
theorem ZaB:Tryz.prog.built 51 []=some (acV acN):=by kernel_rfl
theorem ZcC (b:Bool):Tryz.prog.built 51 [(0,.bool b)]=some (acV ⟨b,0,0,0,0,0,0,0⟩):=by kernel_rfl
theorem ZlV (g:Int):Tryz.prog.built 51 [(0,.bool true),(1,.int .i64 3),(3,.int .i64 g)]=some (acV ⟨true,3,0,g,0,0,0,0⟩):=by kernel_rfl
theorem ZlW (i:Int):Tryz.prog.built 51 [(0,.bool true),(1,.int .i64 1),(2,.int .i64 i)]=some (acV ⟨true,1,i,0,0,0,0,0⟩):=by kernel_rfl
theorem ZlX (a b c d:Int):Tryz.prog.built 51 [(0,.bool true),(1,.int .i64 2),(4,.agg #[.int .u32 a,.int .u32 b,.int .u32 c,.int .u32 d])]=some (acV ⟨true,2,0,0,a,b,c,d⟩):=by kernel_rfl
theorem Zse {l:List (ByteArray×ByteArray)}{x:ByteArray}{k:Nat}{d:ByteArray×ByteArray}(h:l[k]?=some d)(hd:(d.1.toList==x.toList)=true)(hn:∀j d,j<k→l[j]?=some d→(d.1.toList==x.toList)=false):ZjE l x=k:=by
 unfold ZjE
 refine ZaZ (p:=d) h (fun q hq=>?_) hd
 obtain⟨j,hj,h9⟩:=List.getElem_of_mem hq
 rw[List.length_take] at hj
 have h8:(l.take k)[j]?=some q:=by rw[List.getElem?_eq_getElem (by rw[List.length_take];exact hj),h9]
 rw[List.getElem?_take_of_lt (by omega)] at h8
 exact hn j q (by omega) h8
theorem Zsf {l:List (ByteArray×ByteArray)}{x:ByteArray}(hn:∀j d,j<l.length→l[j]?=some d→(d.1.toList==x.toList)=false):ZjE l x= -1:=by
 unfold ZjE
 refine ZaD (fun p hp=>?_)
 obtain⟨j,hj,h9⟩:=List.getElem_of_mem hp
 exact hn j p hj (by rw[List.getElem?_eq_getElem hj,h9])
theorem Zod {s:Sn}{q:Rq}{m:Nat}{d:ByteArray×ByteArray}(h:s.st=false)(hi:ZjE s.env q.tx=m)(hd:s.env[m]?=some d):ZcG s q=({s with env:=s.env.set m (d.1,q.vl)},acY):=by
 unfold ZcG
 rw[if_neg (by rw[h];simp),if_pos (by rw[hi];omega),hi]
 unfold ZqN
 rw[Int.toNat_natCast,List.getD_eq_getElem?_getD,hd]
 rfl
theorem ZlY {s:Sn}{q:Rq}(h:s.st=false)(hi:ZjE s.env q.tx= -1)(hl:16≤s.env.length):ZcG s q=(s,acN):=by
 unfold ZcG
 rw[if_neg (by rw[h];simp),if_neg (by rw[hi];omega),if_pos hl]
theorem Zoe {s:Sn}{q:Rq}(h:s.st=false)(hi:ZjE s.env q.tx= -1)(hl:¬16≤s.env.length):ZcG s q=({s with env:=s.env++ [(q.tx,q.vl)]},acY):=by
 unfold ZcG
 rw[if_neg (by rw[h];simp),if_neg (by rw[hi];omega),if_neg hl]
theorem ZsX {s:Sn}{ev:Value}{i:Nat}{u:Value}(h:s.t.cells[i]?=some u):(sesC s ev)[6+i]?=some u:=by
 have h6:(Zcc s).length=6:=rfl
 rw[sesC,List.getElem?_append_right (by omega),h6,show 6+i - 6=i by omega,List.getElem?_append_left (List.getElem?_eq_some_iff.1 h).1]
 exact h
theorem Zof {A:Nat→Prop}(s:Sn)(ev vb pv:Value)(r:Rq)(l:List (ByteArray×List Po))(k:Nat)(w:World)(hs:s.Ok)(hev:RdY Zbc A w ev s.env)(h:RI .u8 w vb (encL (fldsQ r k)))(hk:r.k=(k:Int))(h1:1≤k)(h10:k≤10)(ha:Zbe r=0)(hr:r.Ok)(hp:RdY PqR (fun _=>True) w pv l):
 Calls Tryz.prog 12 #[.agg (sesV s ev),.string (nmQ k),vb,pv] w (ZqC (ZfM (l.map (·.1)) s (ownQ r k) k) w):=by
 have hiSA:∀ (s:Sn) (ev:Value),s.t.Ok→(Tryz.prog.info? 42).map (·.size)=some (sesV s ev).size:=fun s ev h=>by rw[List.size_toArray,sesC_len h];kernel_rfl
 have hiR:=zi Tryz.prog 46 11
 have hiA:=zi Tryz.prog 51 8
 obtain⟨Ap,cp,rfl,-,-⟩:=hp.shape
 obtain⟨Ae,ce,rfl,-,-⟩:=hev.shape
 obtain⟨en,hen⟩:=zm (s.env.length)
 have HEN:=zh hen
 have hen16:en≤16:=by rw[←hen];exact hs.en
 rw[hen] at hev⊢
 clear hen
 obtain⟨W1,hW1⟩:=zn (((w.alloc (.cells (sesV s (.slice Ae en ce)) 42)).alloc (.cells ses0.toArray 42)).alloc (.cells (acV acN) 51))
 have E1:Ext w W1:=by rw[hW1];exact(((Ext.refl _).alloc _).alloc _).alloc _
 have B1:=zh (show Blk W1 w.heap.size 42 (sesV s (.slice Ae en ce)) by rw[hW1];exact((Blk.new w _ _).alloc _).alloc _)
 have B2:=zh (show Blk W1 (w.heap.size+1) 42 ses0.toArray by rw[hW1];exact(Blk.at_ _ _ (by simp)).alloc _)
 have B3:=zh (show Blk W1 (w.heap.size+1+1) 51 (acV acN) by rw[hW1];exact Blk.at_ _ _ (by simp))
 have hlt1:w.heap.size+1+1<W1.heap.size:=B3.out.lt
 have HW1:=zh (show W1=_ from hW1)
 have HCP:=zh (fun w' (E:Ext w w')=>ZlR s (.slice Ae en ce) w' hs (hev.ext E))
 have HDC:=zh (fun w' (E:Ext w w')=>ZlP r k vb w' (RdN.ext h E) hk h1 h10 ha hr)
 unfold ZkH at HDC
 have HP:=zh hp
 have HS:=zh hs
 have HQB:=zh (show Bs (ownQ r k).mo from by
  have hb0:Bs ([]:List Int):=fun x hx=>by simp at hx
  unfold ownQ
  split
  all_goals first|exact hr.bs|exact hb0)
 have HQT:=zh (show(ownQ r k).tx.size≤100000000 from by
  have h9:=hr.tx
  unfold ownQ
  split
  all_goals first|(show r.tx.size≤_;omega)|(show(⟨#[]⟩:ByteArray).size≤_;decide))
 have HQK:=zh (Zsd r k h1 h10)
 obtain⟨q,hq⟩:=zm (ownQ r k)
 rw[hq] at HDC HQB HQT HQK⊢
 obtain⟨res,hres⟩:=zm (ZfM (l.map (·.1)) s q k)
 rw[hres]
 have HRES:=zh hres
 obtain⟨ln,hln⟩:=zm (l.length)
 rw[hln] at HP⊢
 obtain⟨nk,hnk⟩:=zm (nmQ k)
 rw[hnk] at HDC⊢
 have E1:=zh E1
 clear hs hev h hk ha hr hp hW1 hq hres hln hnk
 unfold ZqC
 go_enter Tryz.func12,Tryz.ntmps12
 go_upto_region 1 with fail
 change Code.wp _ _ _ _ (((w.alloc (.cells (sesV s (.slice Ae en ce)) 42)).alloc (.cells ses0.toArray 42)).alloc (.cells (acV acN) 51))
 rw[←HW1.out]
 clear HW1
 go_wp2_with(first|(refine wpList_load_row rfl 42 _ rfl _ rfl 42 _ _ _ B1.out Tryz.underlying42 rfl (hiSA _ _ HS.out.t) ?_)|fail)
 refine(HCP.out _ E1.out).mono ?_
 rintro e w2 ⟨ev2,rfl,OV,E2⟩
 obtain⟨A2,c2,rfl,-,-⟩:=OV.shape
 have OV:=zh (OV.lower (base':=W1.heap.size) (Nat.le_refl _))
 have BR:=zh (B2.out.ext E2)
 have BA:=zh (B3.out.ext E2)
 have B12:=zh (B1.out.ext E2)
 have E12:=zh E2
 rw[HEN.out] at OV⊢
 clear HCP B1 B2 B3 E2
 go_upto_region 2 with(first|(refine wpList_store_M rfl 42 _ _ rfl w.heap.size _ rfl rfl 42 _ B12.out (hiSA _ _ HS.out.t) (by show(sesC s (.slice Ae en ce)).length=(sesC s (.slice A2 en c2)).length;rw[sesC_len HS.out.t,sesC_len HS.out.t]) (sesC_one _ _ rfl) ?_;intro w3 P3 M3)|fail)
 have EE:=zh (Mod.toExt (E1.out.trans E12.out) M3 (fun k hk he=>by omega))
 have B13:=zh P3
 have OV3:=zh (OV.out.mod M3 (fun k hk he=>by have:=(OV.out.row k hk).1;omega) (fun k _ hk=>hk.elim))
 have BR3:=zh (BR.out.mod M3 (by omega))
 have BA3:=zh (BA.out.mod M3 (by omega))
 clear P3 M3 OV BR BA B12 E12
 go_wp2_with fail
 refine(HDC.out w3 EE.out).mono ?_
 rintro e w4 ⟨v,rfl,RV,E4⟩
 have RV:=zh RV
 have EE:=zh (EE.out.trans E4)
 have B14:=zh (B13.out.ext E4)
 have OV4:=zh (OV3.out.ext E4)
 have BR4:=zh (BR3.out.ext E4)
 have BA4:=zh (BA3.out.ext E4)
 have hz4:=EE.out.size
 clear HDC B13 OV3 BR3 BA3 E4
 obtain⟨Av,cv,rfl,-,-⟩:=RV.out.shape
 have RV:=zh (RdS.ri RV.out)
 obtain⟨mn,hmn⟩:=zm (q.mo.length)
 have RV:=zh (show RI .u8 w4 (.slice Av mn cv) q.mo from by rw[←hmn];exact RV.out)
 rw[hmn]
 clear hmn
 have B8:=zh (Blk.new w4 46 #[.int .i64 0,.string ⟨#[]⟩,.string ⟨#[]⟩,.string ⟨#[]⟩,.int .u32 0,.int .u32 0,.int .u32 0,.int .u32 0,.slice none 0 0,.bool false,.int .u32 0])
 go_upto_region 5 with(refine wpList_store_M rfl 46 _ _ rfl w4.heap.size _ rfl rfl 46 _ B8.out hiR rfl (by simp[Value.oneCell']) ?_;intro w5 P5 M5)
 have EE:=zh (show Ext w w5 from Mod.toExt (EE.out.alloc _) M5 (fun k hk he=>by omega))
 have E45:=zh (show Ext w4 w5 from Mod.toExt ((Ext.refl _).alloc _) M5 (fun k hk he=>by omega))
 have BS:=zh (B14.out.ext E45.out)
 have OV:=zh (OV4.out.ext E45.out)
 have BR:=zh (BR4.out.ext E45.out)
 have BA:=zh (BA4.out.ext E45.out)
 have RV:=zh (RdN.ext RV.out E45.out)
 have BQ:=zh P5
 obtain⟨n3,hn3⟩:=zm (w4.heap.size)
 rw[hn3] at BQ⊢
 have hlt4:w.heap.size+1+1<n3:=by rw[←hn3];exact BA4.out.lt
 have hlt5:=BQ.out.lt
 clear P5 M5 B8 E45 hn3 B14 OV4 BR4 BA4 hz4
 have k0:=BQ.out.cell 0
 simp only[List.getElem?_toArray,List.getElem?_cons_zero] at k0
 have hkc:k=6∨k=8∨k=2∨k=1∨(k=7∨k=9∨k=10)∨(k=3∨k=4∨k=5):=by omega
 clear h1 h10
 rcases hkc with rfl|rfl|rfl|rfl|hkk|hkk
 ·as_aux_lemma=>
   rw[show q.k=6 from HQK.out] at k0
   have hiZ:=zi Tryz.prog 35 4
   have q0:=BS.out.cell 0
   rw[Zsb] at q0
   have z4:=BQ.out.cell 4
   have z5:=BQ.out.cell 5
   have z6:=BQ.out.cell 6
   have z7:=BQ.out.cell 7
   simp only[zG] at z4 z5 z6 z7
   have HRNG:=zh (show ∀w':World,(∀i,w'.cell? ⟨n3,i,none⟩=w5.cell? ⟨n3,i,none⟩)→w'.rangeAt n3 4 [.int .u32 q.c1,.int .u32 q.c2,.int .u32 q.c3,.int .u32 q.c4] from fun w' hc i u hu=>by
    rw[hc]
    rcases i with _|_|_|_|i
    ·exact z4.trans hu
    ·exact z5.trans hu
    ·exact z6.trans hu
    ·exact z7.trans hu
    ·simp at hu)
   clear z4 z5 z6 z7
   cases hpt:s.pty with
   |false=>
    rw[hpt] at q0
    have HPT:=zh hpt
    clear hpt
    go_upto_region 41 with fail
    go_wp2_with(first|(refine wpList_load_row rfl 42 _ rfl _ rfl 42 _ _ _ BS.out Tryz.underlying42 rfl (hiSA (s) _ HS.out.t) ?_)|(refine Md.wpList_build_eq rfl 51 _ rfl (L:=acV acN) ?_ ?_;·(simp[go_sem];exact(ZaB)))|(refine wpList_store_M rfl 42 _ _ rfl (w.heap.size+1) _ rfl rfl 42 _ BR.out (hiSA (s) _ HS.out.t) (by show ses0.length=(sesC (s) (.slice A2 en c2)).length;rw[sesC_len (s:=s) HS.out.t];rfl) (sesC_one _ _ rfl) ?_;intro w5 P5 M5)|(refine wpList_store_M rfl 51 _ _ rfl (w.heap.size+1+1) _ rfl rfl 51 _ (BA.out.mod M5 (by omega)) hiA rfl (by simp[acC,Value.oneCell']) ?_;intro w6 P6 M6)|fail)
    have P56:=P5.mod M6 (by omega)
    refine bodyPost_ret_by (Zad Tryz.results12 _ _ (w.heap.size+1) (w.heap.size+1+1) 42 51 _ _ _ _ _ _ rfl rfl P56 P6 Tryz.underlying42 rfl (hiSA (s) _ HS.out.t) Tryz.underlying51 rfl hiA) rfl ?_
    have hz:res=(s,acN):=by rw[←HRES.out];(show ZbF s q=_;unfold ZbF;rw[if_neg (by rw[HPT.out];simp)])
    rw[hz]
    exact⟨_,rfl,((OV.out.mod M5 (fun k hk he=>by have:=(OV.out.row k hk).1;omega) (fun k _ hk=>hk.elim)).mod M6 (fun k hk he=>by have:=(OV.out.row k hk).1;omega) (fun k _ hk=>hk.elim)).lower (by omega),Mod.toExt (Mod.toExt EE.out M5 (fun k hk he=>by omega)) M6 (fun k hk he=>by omega)⟩
   |true=>
    rw[hpt] at q0
    have HPT:=zh hpt
    clear hpt
    have hth:w5.there w.heap.size 2 4:=fun t ht=>⟨by
     rw[BS.out.cell]
     rcases t with _|_|_|_|t
     ·rfl
     ·rfl
     ·rfl
     ·rfl
     ·omega,BS.out.frozen _⟩
    have B6:=zh (show Blk (w5.setCells w.heap.size 2 [.int .u32 q.c1,.int .u32 q.c2,.int .u32 q.c3,.int .u32 q.c4]) w.heap.size 42 (sesV (s.size q) (.slice A2 en c2)) from Blk.setCells [.int .u32 q.c1,.int .u32 q.c2,.int .u32 q.c3,.int .u32 q.c4] 2 w5 _ BS.out (by rw[List.size_toArray,sesC_len HS.out.t];simp))
    have M6:=zh (Mod.setCells [.int .u32 q.c1,.int .u32 q.c2,.int .u32 q.c3,.int .u32 q.c4] 2 w5 w5 (Mod.refl (fun k=>k=w.heap.size) w5))
    go_upto_region 43 with(first|(refine wpList_load_mid rfl 35 _ rfl n3 4 rfl [.int .u32 q.c1,.int .u32 q.c2,.int .u32 q.c3,.int .u32 q.c4] _ (HRNG.out _ (fun _=>rfl)) Tryz.underlying35 rfl hiZ ?_)|(refine wpList_store_mid rfl 35 _ _ rfl w.heap.size 2 #[.int .u32 q.c1,.int .u32 q.c2,.int .u32 q.c3,.int .u32 q.c4] rfl rfl (by exact hth) hiZ (by simp[Value.oneCell']) ?_)|fail)
    obtain⟨w6,hw6⟩:=zn (w5.setCells w.heap.size 2 [.int .u32 q.c1,.int .u32 q.c2,.int .u32 q.c3,.int .u32 q.c4])
    rw[←hw6] at B6 M6
    first|rw[←hw6]|(change Code.wp _ _ _ _ (w5.setCells w.heap.size 2 [.int .u32 q.c1,.int .u32 q.c2,.int .u32 q.c3,.int .u32 q.c4]);rw[←hw6])
    clear hw6 hth q0 k0
    have EE:=zh (show Ext w w6 from Mod.toExt EE.out M6.out (fun k hk he=>by omega))
    have OV:=zh (OV.out.mod M6.out (fun k hk he=>by have:=(OV.out.row k hk).1;omega) (fun k _ hk=>hk.elim))
    have BR:=zh (BR.out.mod M6.out (by omega))
    have BA:=zh (BA.out.mod M6.out (by omega))
    have HR6:=zh (HRNG.out w6 (fun i=>M6.out.cell n3 i hlt5 (by omega)))
    have hlt6:=(BQ.out.mod M6.out (by omega)).lt
    have q31:=B6.out.cell 31
    rw[ZgS (s:=s.size q) HS.out.t] at q31
    have HZ:=zh (show ZbF s q=(s.size q,if s.st=true then⟨true,2,0,0,q.c1,q.c2,q.c3,q.c4⟩ else acY) from by unfold ZbF;rw[if_pos HPT.out])
    clear BS M6 HRNG BQ
    cases hst:s.st with
    |false=>
     rw[show(s.size q).st=s.st from rfl,hst] at q31
     rw[hst] at HZ
     clear hst
     go_upto_region 45 with fail
     go_wp2_with(first|(refine wpList_load_row rfl 42 _ rfl _ rfl 42 _ _ _ B6.out Tryz.underlying42 rfl (hiSA ((s.size q)) _ HS.out.t) ?_)|(refine Md.wpList_build_eq rfl 51 _ rfl (L:=acV acY) ?_ ?_;·(simp[go_sem];exact(ZcC true)))|(refine wpList_store_M rfl 42 _ _ rfl (w.heap.size+1) _ rfl rfl 42 _ BR.out (hiSA ((s.size q)) _ HS.out.t) (by show ses0.length=(sesC ((s.size q)) (.slice A2 en c2)).length;rw[sesC_len (s:=(s.size q)) HS.out.t];rfl) (sesC_one _ _ rfl) ?_;intro w5 P5 M5)|(refine wpList_store_M rfl 51 _ _ rfl (w.heap.size+1+1) _ rfl rfl 51 _ (BA.out.mod M5 (by omega)) hiA rfl (by simp[acC,Value.oneCell']) ?_;intro w6 P6 M6)|fail)
     have P56:=P5.mod M6 (by omega)
     refine bodyPost_ret_by (Zad Tryz.results12 _ _ (w.heap.size+1) (w.heap.size+1+1) 42 51 _ _ _ _ _ _ rfl rfl P56 P6 Tryz.underlying42 rfl (hiSA ((s.size q)) _ HS.out.t) Tryz.underlying51 rfl hiA) rfl ?_
     have hz:res=((s.size q),acY):=by rw[←HRES.out];(show ZbF s q=_;rw[HZ.out];rfl)
     rw[hz]
     exact⟨_,rfl,((OV.out.mod M5 (fun k hk he=>by have:=(OV.out.row k hk).1;omega) (fun k _ hk=>hk.elim)).mod M6 (fun k hk he=>by have:=(OV.out.row k hk).1;omega) (fun k _ hk=>hk.elim)).lower (by omega),Mod.toExt (Mod.toExt EE.out M5 (fun k hk he=>by omega)) M6 (fun k hk he=>by omega)⟩
    |true=>
     rw[show(s.size q).st=s.st from rfl,hst] at q31
     rw[hst] at HZ
     clear hst
     go_upto_region 44 with fail
     refine zg (fun w'=>Mod (fun k=>k=w.heap.size+1∨k=w.heap.size+1+1) w6 w') (Mod.of_ext (Ext.drew (Ext.refl _))) fun hHeld=>?_
     obtain⟨D,hD⟩:=zn (w6.drew)
     have ED:Ext w6 D:=by rw[hD];exact(Ext.refl _).drew
     rw[←hD] at hHeld⊢
     clear hD
     (refine zU 0 rfl (Zac (by rfl) 42 _ rfl _ rfl 42 (sesV (s.size q) (.slice A2 en c2)) _ _ (fun w' hSw=>(B6.out.mod hSw (by omega))) Tryz.underlying42 rfl (hiSA (s.size q) _ HS.out.t)) ?_)
     refine zr 1 ?_
     (refine zU 2 rfl (yieldsIf_load_mid (by rfl) 35 _ rfl _ _ rfl [.int .u32 q.c1,.int .u32 q.c2,.int .u32 q.c3,.int .u32 q.c4] _ (fun w' hSw=>(fun i u hu=>(hSw.cell n3 _ hlt6 (by omega)).trans (HR6.out i u hu))) Tryz.underlying35 rfl hiZ) ?_)
     (refine zU 3 (v:=.agg (acV ⟨true,2,0,0,q.c1,q.c2,q.c3,q.c4⟩)) rfl (Zae (by rfl) 51 _ rfl (by simp[go_sem];exact(ZlX q.c1 q.c2 q.c3 q.c4))) ?_)
     have BRD:=zh (BR.out.ext ED)
     have BAD:=zh (BA.out.ext ED)
     (refine zw 4 fun K hK=>?_;rw[if_pos (by rfl)];refine Zag 42 _ _ rfl (w.heap.size+1) _ rfl rfl 42 _ BRD.out (hiSA (s.size q) _ HS.out.t) (by show ses0.length=(sesC (s.size q) (.slice A2 en c2)).length;rw[sesC_len (s:=s.size q) HS.out.t];rfl) (sesC_one _ _ rfl) ?_;intro u5 P5 M5;refine zo hK ((Mod.of_ext ED).trans (M5.mono (fun k _ h=>Or.inl h))) fun hHeld=>?_;clear hK K)
     have M85:=zh hHeld
     have BA5:=zh (BAD.out.mod M5 (by omega))
     (refine zw 5 fun K hK=>?_;rw[if_pos (by rfl)];refine Zag 51 _ _ rfl (w.heap.size+1+1) _ rfl rfl 51 _ BA5.out hiA (by rfl) (by simp[acC,Value.oneCell']) ?_;intro u6 P6 M6;refine zo hK (M85.out.trans (M6.mono (fun k _ h=>Or.inr h))) fun hHeld=>?_;clear hK K)
     have P56:=P5.mod M6 (by omega)
     refine zd ?_
     go_wp2_with fail
     refine bodyPost_ret_by (Zad Tryz.results12 _ _ (w.heap.size+1) (w.heap.size+1+1) 42 51 _ _ _ _ _ _ rfl rfl P56 P6 Tryz.underlying42 rfl (hiSA (s.size q) _ HS.out.t) Tryz.underlying51 rfl hiA) rfl ?_
     have hz:res=(s.size q,⟨true,2,0,0,q.c1,q.c2,q.c3,q.c4⟩):=by rw[←HRES.out];show ZbF s q=_;rw[HZ.out];rfl
     rw[hz]
     exact⟨_,rfl,(OV.out.mod hHeld (fun k hk he=>by have:=(OV.out.row k hk).1;omega) (fun k _ hk=>hk.elim)).lower (by omega),Mod.toExt EE.out hHeld (fun k hk he=>by omega)⟩
 ·as_aux_lemma=>
   rw[show q.k=8 from HQK.out] at k0
   have k1:=BQ.out.cell 1
   have q31:=BS.out.cell 31
   rw[ZgS HS.out.t] at q31
   simp only[zG] at k1
   have HNU:=zh (fun w'=>Sg.ZhA q.tx w')
   rw[Sg.ZnH] at HNU
   go_wp2_with fail
   refine(HNU.out _).mono ?_
   rintro e w6 ⟨rfl,E6⟩
   have EE:=zh (EE.out.trans E6)
   have BS:=zh (BS.out.ext E6)
   have OV:=zh (OV.out.ext E6)
   have BR:=zh (BR.out.ext E6)
   have BA:=zh (BA.out.ext E6)
   have q31:=Zaa E6 q31
   clear E6 HNU k0 k1 RV BQ
   obtain⟨sg,hsg⟩:=zm (Sg.numL q.tx)
   obtain⟨g,ok⟩:=sg
   rw[hsg]
   have HSG:=zh hsg
   clear hsg
   dsimp only
   cases hst:s.st with
   |false=>
    rw[hst] at q31
    have HST:=zh hst
    clear hst
    go_upto_region 50 with(first|(refine wpList_openG rfl rfl ?_)|fail)
    go_wp2_with(first|(refine wpList_load_row rfl 42 _ rfl _ rfl 42 _ _ _ BS.out Tryz.underlying42 rfl (hiSA (s) _ HS.out.t) ?_)|(refine Md.wpList_build_eq rfl 51 _ rfl (L:=acV acN) ?_ ?_;·(simp[go_sem];exact(ZaB)))|(refine wpList_store_M rfl 42 _ _ rfl (w.heap.size+1) _ rfl rfl 42 _ BR.out (hiSA (s) _ HS.out.t) (by show ses0.length=(sesC (s) (.slice A2 en c2)).length;rw[sesC_len (s:=s) HS.out.t];rfl) (sesC_one _ _ rfl) ?_;intro w5 P5 M5)|(refine wpList_store_M rfl 51 _ _ rfl (w.heap.size+1+1) _ rfl rfl 51 _ (BA.out.mod M5 (by omega)) hiA rfl (by simp[acC,Value.oneCell']) ?_;intro w6 P6 M6)|fail)
    have P56:=P5.mod M6 (by omega)
    refine bodyPost_ret_by (Zad Tryz.results12 _ _ (w.heap.size+1) (w.heap.size+1+1) 42 51 _ _ _ _ _ _ rfl rfl P56 P6 Tryz.underlying42 rfl (hiSA (s) _ HS.out.t) Tryz.underlying51 rfl hiA) rfl ?_
    have hz:res=(s,acN):=by rw[←HRES.out];(show ZgY s q=_;unfold ZgY;rw[if_neg (by rw[HST.out];simp)])
    rw[hz]
    exact⟨_,rfl,((OV.out.mod M5 (fun k hk he=>by have:=(OV.out.row k hk).1;omega) (fun k _ hk=>hk.elim)).mod M6 (fun k hk he=>by have:=(OV.out.row k hk).1;omega) (fun k _ hk=>hk.elim)).lower (by omega),Mod.toExt (Mod.toExt EE.out M5 (fun k hk he=>by omega)) M6 (fun k hk he=>by omega)⟩
   |true=>
    rw[hst] at q31
    have HST:=zh hst
    clear hst
    cases ok with
    |false=>
     go_upto_region 50 with(first|(refine wpList_openG rfl rfl ?_)|fail)
     go_wp2_with(first|(refine wpList_load_row rfl 42 _ rfl _ rfl 42 _ _ _ BS.out Tryz.underlying42 rfl (hiSA (s) _ HS.out.t) ?_)|(refine Md.wpList_build_eq rfl 51 _ rfl (L:=acV acN) ?_ ?_;·(simp[go_sem];exact(ZaB)))|(refine wpList_store_M rfl 42 _ _ rfl (w.heap.size+1) _ rfl rfl 42 _ BR.out (hiSA (s) _ HS.out.t) (by show ses0.length=(sesC (s) (.slice A2 en c2)).length;rw[sesC_len (s:=s) HS.out.t];rfl) (sesC_one _ _ rfl) ?_;intro w5 P5 M5)|(refine wpList_store_M rfl 51 _ _ rfl (w.heap.size+1+1) _ rfl rfl 51 _ (BA.out.mod M5 (by omega)) hiA rfl (by simp[acC,Value.oneCell']) ?_;intro w6 P6 M6)|fail)
     have P56:=P5.mod M6 (by omega)
     refine bodyPost_ret_by (Zad Tryz.results12 _ _ (w.heap.size+1) (w.heap.size+1+1) 42 51 _ _ _ _ _ _ rfl rfl P56 P6 Tryz.underlying42 rfl (hiSA (s) _ HS.out.t) Tryz.underlying51 rfl hiA) rfl ?_
     have hz:res=(s,acN):=by rw[←HRES.out];(show ZgY s q=_;unfold ZgY;rw[if_neg (by rw[HSG.out];simp)])
     rw[hz]
     exact⟨_,rfl,((OV.out.mod M5 (fun k hk he=>by have:=(OV.out.row k hk).1;omega) (fun k _ hk=>hk.elim)).mod M6 (fun k hk he=>by have:=(OV.out.row k hk).1;omega) (fun k _ hk=>hk.elim)).lower (by omega),Mod.toExt (Mod.toExt EE.out M5 (fun k hk he=>by omega)) M6 (fun k hk he=>by omega)⟩
    |true=>
     have HWI:=zh (fun w'=>Sg.Zli g w')
     obtain⟨wi,hwi⟩:=zm (Sg.wireL g)
     rw[hwi] at HWI
     have HWQ:=zh hwi
     clear hwi
     go_wp2_with(first|(refine wpList_openG rfl rfl ?_)|fail)
     refine(HWI.out _).mono ?_
     rintro e w7 ⟨rfl,E7⟩
     have EE:=zh (EE.out.trans E7)
     have BS:=zh (BS.out.ext E7)
     have OV:=zh (OV.out.ext E7)
     have BR:=zh (BR.out.ext E7)
     have BA:=zh (BA.out.ext E7)
     clear E7 HWI q31
     cases wi with
     |false=>
      go_upto_region 50 with fail
      go_wp2_with(first|(refine wpList_load_row rfl 42 _ rfl _ rfl 42 _ _ _ BS.out Tryz.underlying42 rfl (hiSA (s) _ HS.out.t) ?_)|(refine Md.wpList_build_eq rfl 51 _ rfl (L:=acV acN) ?_ ?_;·(simp[go_sem];exact(ZaB)))|(refine wpList_store_M rfl 42 _ _ rfl (w.heap.size+1) _ rfl rfl 42 _ BR.out (hiSA (s) _ HS.out.t) (by show ses0.length=(sesC (s) (.slice A2 en c2)).length;rw[sesC_len (s:=s) HS.out.t];rfl) (sesC_one _ _ rfl) ?_;intro w5 P5 M5)|(refine wpList_store_M rfl 51 _ _ rfl (w.heap.size+1+1) _ rfl rfl 51 _ (BA.out.mod M5 (by omega)) hiA rfl (by simp[acC,Value.oneCell']) ?_;intro w6 P6 M6)|fail)
      have P56:=P5.mod M6 (by omega)
      refine bodyPost_ret_by (Zad Tryz.results12 _ _ (w.heap.size+1) (w.heap.size+1+1) 42 51 _ _ _ _ _ _ rfl rfl P56 P6 Tryz.underlying42 rfl (hiSA (s) _ HS.out.t) Tryz.underlying51 rfl hiA) rfl ?_
      have hz:res=(s,acN):=by rw[←HRES.out];(show ZgY s q=_;unfold ZgY;rw[if_neg (by rw[HSG.out];simp[HWQ.out])])
      rw[hz]
      exact⟨_,rfl,((OV.out.mod M5 (fun k hk he=>by have:=(OV.out.row k hk).1;omega) (fun k _ hk=>hk.elim)).mod M6 (fun k hk he=>by have:=(OV.out.row k hk).1;omega) (fun k _ hk=>hk.elim)).lower (by omega),Mod.toExt (Mod.toExt EE.out M5 (fun k hk he=>by omega)) M6 (fun k hk he=>by omega)⟩
     |true=>
      go_upto_region 49 with fail
      go_wp2_with(first|(refine wpList_load_row rfl 42 _ rfl _ rfl 42 _ _ _ BS.out Tryz.underlying42 rfl (hiSA (s) _ HS.out.t) ?_)|(refine Md.wpList_build_eq rfl 51 _ rfl (L:=acV ⟨true,3,0,g,0,0,0,0⟩) ?_ ?_;·(simp[go_sem];exact(ZlV _)))|(refine wpList_store_M rfl 42 _ _ rfl (w.heap.size+1) _ rfl rfl 42 _ BR.out (hiSA (s) _ HS.out.t) (by show ses0.length=(sesC (s) (.slice A2 en c2)).length;rw[sesC_len (s:=s) HS.out.t];rfl) (sesC_one _ _ rfl) ?_;intro w5 P5 M5)|(refine wpList_store_M rfl 51 _ _ rfl (w.heap.size+1+1) _ rfl rfl 51 _ (BA.out.mod M5 (by omega)) hiA rfl (by simp[acC,Value.oneCell']) ?_;intro w6 P6 M6)|fail)
      have P56:=P5.mod M6 (by omega)
      refine bodyPost_ret_by (Zad Tryz.results12 _ _ (w.heap.size+1) (w.heap.size+1+1) 42 51 _ _ _ _ _ _ rfl rfl P56 P6 Tryz.underlying42 rfl (hiSA (s) _ HS.out.t) Tryz.underlying51 rfl hiA) rfl ?_
      have hz:res=(s,⟨true,3,0,g,0,0,0,0⟩):=by rw[←HRES.out];(show ZgY s q=_;unfold ZgY;rw[HSG.out,if_pos ⟨HST.out,rfl,HWQ.out⟩])
      rw[hz]
      exact⟨_,rfl,((OV.out.mod M5 (fun k hk he=>by have:=(OV.out.row k hk).1;omega) (fun k _ hk=>hk.elim)).mod M6 (fun k hk he=>by have:=(OV.out.row k hk).1;omega) (fun k _ hk=>hk.elim)).lower (by omega),Mod.toExt (Mod.toExt EE.out M5 (fun k hk he=>by omega)) M6 (fun k hk he=>by omega)⟩
 ·as_aux_lemma=>
   rw[show q.k=2 from HQK.out] at k0
   have k1:=BQ.out.cell 1
   have k2:=BQ.out.cell 2
   have q31:=BS.out.cell 31
   have q30:=BS.out.cell 30
   rw[ZgS HS.out.t] at q31
   rw[Ze6 HS.out.t] at q30
   simp only[zG] at k1 k2
   cases hst:s.st with
   |true=>
    rw[hst] at q31
    have HST:=zh hst
    clear hst
    go_upto_region 14 with fail
    go_wp2_with(first|(refine wpList_load_row rfl 42 _ rfl _ rfl 42 _ _ _ BS.out Tryz.underlying42 rfl (hiSA (s) _ HS.out.t) ?_)|(refine Md.wpList_build_eq rfl 51 _ rfl (L:=acV acN) ?_ ?_;·(simp[go_sem];exact(ZaB)))|(refine wpList_store_M rfl 42 _ _ rfl (w.heap.size+1) _ rfl rfl 42 _ BR.out (hiSA (s) _ HS.out.t) (by show ses0.length=(sesC (s) (.slice A2 en c2)).length;rw[sesC_len (s:=s) HS.out.t];rfl) (sesC_one _ _ rfl) ?_;intro w5 P5 M5)|(refine wpList_store_M rfl 51 _ _ rfl (w.heap.size+1+1) _ rfl rfl 51 _ (BA.out.mod M5 (by omega)) hiA rfl (by simp[acC,Value.oneCell']) ?_;intro w6 P6 M6)|fail)
    have P56:=P5.mod M6 (by omega)
    refine bodyPost_ret_by (Zad Tryz.results12 _ _ (w.heap.size+1) (w.heap.size+1+1) 42 51 _ _ _ _ _ _ rfl rfl P56 P6 Tryz.underlying42 rfl (hiSA (s) _ HS.out.t) Tryz.underlying51 rfl hiA) rfl ?_
    have hz:res=(s,acN):=by rw[←HRES.out];(show ZcG s q=_;unfold ZcG;rw[if_pos HST.out])
    rw[hz]
    exact⟨_,rfl,((OV.out.mod M5 (fun k hk he=>by have:=(OV.out.row k hk).1;omega) (fun k _ hk=>hk.elim)).mod M6 (fun k hk he=>by have:=(OV.out.row k hk).1;omega) (fun k _ hk=>hk.elim)).lower (by omega),Mod.toExt (Mod.toExt EE.out M5 (fun k hk he=>by omega)) M6 (fun k hk he=>by omega)⟩
   |false=>
    rw[hst] at q31
    have HST:=zh hst
    clear hst
    go_wp2
    go_loopw [81] (fun i wr=>∃m:Nat,m≤en∧i= .int .i64 m∧Hid (∀j d,j<m→s.env[j]?=some d→(d.1.toList==q.tx.toList)=false)∧Hid (Ext w5 wr)) (fun i _=>en - (intOf i).toNat)
    case atStart=>exact⟨0,Nat.zero_le _,rfl,zh (fun j d hj=>by omega),zh (Ext.refl _)⟩
    case round=>
     obtain⟨m,hm,rfl,hJ,hE⟩:=hrel
     have OVr:=zh (OV.out.ext hE.out)
     by_cases hlt:m<en
     ·obtain⟨G,hG,hgb,hfr⟩:=OVr.out.addr (by omega)
      subst hG
      obtain⟨b,off,c3,d,cs,hv,hd,hrel2,hlen,hcell⟩:=OVr.out.rdT.y.cells (j:=m) (by rw[HEN.out];exact hlt)
      simp only[Value.slice.injEq,Option.some.injEq,Addr.mk.injEq] at hv
      obtain⟨⟨rfl,rfl,-⟩,-,rfl⟩:=hv
      obtain⟨d1,d2⟩:=d
      obtain rfl:cs=[.string d1,.string d2]:=hrel2.out
      have HCELL:=zh (show wr.rangeAt G (m*2) [.string d1,.string d2] from fun i u hu=>by
       have h9:wr.cell? ⟨G,0+m*2+i,none⟩=some u:=hcell i u hu
       rwa [Nat.zero_add] at h9)
      obtain⟨W9,hW9⟩:=zn (wr.alloc (.cells #[.string d1,.string d2] 128))
      have E9:Ext wr W9:=by rw[hW9];exact(Ext.refl _).alloc _
      have P9:=zh (show Blk W9 wr.heap.size 128 #[.string d1,.string d2] by rw[hW9];exact Blk.new wr _ _)
      have p0:=P9.out.cell 0
      simp only[List.getElem?_toArray,List.getElem?_cons_zero] at p0
      have HW9:=zh hW9
      have E59:=zh (hE.out.trans E9)
      have k1:=Zaa E59.out k1
      have k2:=Zaa E59.out k2
      have q30:=Zaa E59.out q30
      have hGl:G<wr.heap.size:=(OVr.out.row G rfl).2
      have hf:W9.frozen? ⟨G,m*2+1,none⟩=false:=(E9.frozen G _ hGl).trans (hfr _)
      have kx:W9.cell? ⟨G,m*2+1,none⟩=some (.string d2):=Zaa E9 (HCELL.out 1 _ rfl)
      have OV9:=zh (OVr.out.ext E9)
      have hw64:(m:Int)<(en:Int):=by omega
      obtain⟨qb,hqb⟩:=zm ((d1.toList==q.tx.toList))
      have HQB2:=zh hqb
      have hiV:=zi Tryz.prog 128 2
      clear hW9 hlen hcell hrel2 hfr
      go_upto_region 18 with(first|(refine wpList_load_mid rfl 128 _ rfl G (m*2) rfl [.string d1,.string d2] _ HCELL.out Tryz.underlying128 rfl hiV ?_)|(refine wpList_load_mid rfl 128 _ rfl G (0+m*2) rfl [.string d1,.string d2] _ (by rw[Nat.zero_add];exact HCELL.out) Tryz.underlying128 rfl hiV ?_))
      rw[←HW9.out]
      clear HW9 HCELL E9
      cases qb with
      |true=>
       have HI:=zh (Zse hd.out HQB2.out hJ.out)
       go_upto_region 20 with fail
       obtain⟨w10,hw10⟩:=zn (W9.setCell ⟨G,m*2+1,none⟩ (.string q.vl))
       have M10:Mod (fun k=>k=G) W9 w10:=by rw[hw10];exact(Mod.refl _ _).set1 _
       have O10:=zh (show OwnS Zbc 128 W1.heap.size (fun _=>False) w10 (.slice (some ⟨G,0,none⟩) en c2) (s.env.set m (d1,q.vl)) from by
        rw[hw10]
        exact OwnS.store (e:=Zbc) (i:=1) (x:=.string q.vl) (d':=(d1,q.vl)) OV9.out (by rw[HEN.out];exact hlt) (by decide) (fun cs d hd2 hr=>by
         rw[hd.out] at hd2
         obtain rfl:=Option.some.inj hd2
         have h7:cs=[.string d1,.string d2]:=hr
         rw[h7]
         rfl))
       rw[←hw10]
       clear hw10
       have EE:=zh (show Ext w w10 from Mod.toExt (EE.out.trans E59.out) M10 (fun k hk he=>by omega))
       have BS10:=zh (show Blk w10 w.heap.size 42 (sesV {s with env:=s.env.set m (d1,q.vl)} (.slice (some ⟨G,0,none⟩) en c2)) from(BS.out.ext E59.out).mod M10 (by omega))
       have BR:=zh ((BR.out.ext E59.out).mod M10 (by omega))
       have BA:=zh ((BA.out.ext E59.out).mod M10 (by omega))
       clear M10 kx hf OV9
       go_wp2_with(first|(refine wpList_load_row rfl 42 _ rfl _ rfl 42 _ _ _ BS10.out Tryz.underlying42 rfl (hiSA ({s with env:=s.env.set m (d1,q.vl)}) _ HS.out.t) ?_)|(refine Md.wpList_build_eq rfl 51 _ rfl (L:=acV acY) ?_ ?_;·(simp[go_sem];exact(ZcC true)))|(refine wpList_store_M rfl 42 _ _ rfl (w.heap.size+1) _ rfl rfl 42 _ BR.out (hiSA ({s with env:=s.env.set m (d1,q.vl)}) _ HS.out.t) (by show ses0.length=(sesC ({s with env:=s.env.set m (d1,q.vl)}) (.slice (some ⟨G,0,none⟩) en c2)).length;rw[sesC_len (s:={s with env:=s.env.set m (d1,q.vl)}) HS.out.t];rfl) (sesC_one _ _ rfl) ?_;intro w5 P5 M5)|(refine wpList_store_M rfl 51 _ _ rfl (w.heap.size+1+1) _ rfl rfl 51 _ (BA.out.mod M5 (by omega)) hiA rfl (by simp[acC,Value.oneCell']) ?_;intro w6 P6 M6)|fail)
       have P56:=P5.mod M6 (by omega)
       refine bodyPost_ret_by (Zad Tryz.results12 _ _ (w.heap.size+1) (w.heap.size+1+1) 42 51 _ _ _ _ _ _ rfl rfl P56 P6 Tryz.underlying42 rfl (hiSA ({s with env:=s.env.set m (d1,q.vl)}) _ HS.out.t) Tryz.underlying51 rfl hiA) rfl ?_
       have hz:res=({s with env:=s.env.set m (d1,q.vl)},acY):=by rw[←HRES.out];(show ZcG s q=_;exact Zod HST.out HI.out hd.out)
       rw[hz]
       exact⟨_,rfl,((O10.out.mod M5 (fun k hk he=>by have:=(O10.out.row k hk).1;omega) (fun k _ hk=>hk.elim)).mod M6 (fun k hk he=>by have:=(O10.out.row k hk).1;omega) (fun k _ hk=>hk.elim)).lower (by omega),Mod.toExt (Mod.toExt EE.out M5 (fun k hk he=>by omega)) M6 (fun k hk he=>by omega)⟩
      |false=>
       go_wp2
       go_roundw
       case rel=>exact⟨m+1,by omega,by go_num,zh (fun j d hj h8=>by
        by_cases h9:j=m
        ·subst h9
         rw[hd.out] at h8
         rw[←Option.some.inj h8]
         exact HQB2.out
        ·exact hJ.out j d (by omega) h8),E59⟩
       case measure=>simp[intOf];omega
     ·obtain rfl:m=en:=by omega
      have HI:=zh (Zsf (l:=s.env) (x:=q.tx) (fun j d hj=>hJ.out j d (by rw[←HEN.out];exact hj)))
      have k1:=Zaa hE.out k1
      have k2:=Zaa hE.out k2
      have q30:=Zaa hE.out q30
      have EE:=zh (EE.out.trans hE.out)
      have BS:=zh (BS.out.ext hE.out)
      have OV:=zh (OV.out.ext hE.out)
      have BR:=zh (BR.out.ext hE.out)
      have BA:=zh (BA.out.ext hE.out)
      by_cases h16:16≤m
      ·have hL7:(16:Int)≤(m:Int):=by omega
       go_upto_region 23 with fail
       go_wp2_with(first|(refine wpList_load_row rfl 42 _ rfl _ rfl 42 _ _ _ BS.out Tryz.underlying42 rfl (hiSA (s) _ HS.out.t) ?_)|(refine Md.wpList_build_eq rfl 51 _ rfl (L:=acV acN) ?_ ?_;·(simp[go_sem];exact(ZaB)))|(refine wpList_store_M rfl 42 _ _ rfl (w.heap.size+1) _ rfl rfl 42 _ BR.out (hiSA (s) _ HS.out.t) (by show ses0.length=(sesC (s) (.slice A2 m c2)).length;rw[sesC_len (s:=s) HS.out.t];rfl) (sesC_one _ _ rfl) ?_;intro w5 P5 M5)|(refine wpList_store_M rfl 51 _ _ rfl (w.heap.size+1+1) _ rfl rfl 51 _ (BA.out.mod M5 (by omega)) hiA rfl (by simp[acC,Value.oneCell']) ?_;intro w6 P6 M6)|fail)
       have P56:=P5.mod M6 (by omega)
       refine bodyPost_ret_by (Zad Tryz.results12 _ _ (w.heap.size+1) (w.heap.size+1+1) 42 51 _ _ _ _ _ _ rfl rfl P56 P6 Tryz.underlying42 rfl (hiSA (s) _ HS.out.t) Tryz.underlying51 rfl hiA) rfl ?_
       have hz:res=(s,acN):=by rw[←HRES.out];(show ZcG s q=_;exact ZlY HST.out HI.out (by rw[HEN.out];exact h16))
       rw[hz]
       exact⟨_,rfl,((OV.out.mod M5 (fun k hk he=>by have:=(OV.out.row k hk).1;omega) (fun k _ hk=>hk.elim)).mod M6 (fun k hk he=>by have:=(OV.out.row k hk).1;omega) (fun k _ hk=>hk.elim)).lower (by omega),Mod.toExt (Mod.toExt EE.out M5 (fun k hk he=>by omega)) M6 (fun k hk he=>by omega)⟩
      ·have hL7:¬(16:Int)≤(m:Int):=by omega
       have OVl:=zh (OV.out.lower (base':=w.heap.size+1+1+1) hlt1)
       have hBAl:=BA.out.lt
       go_upto_region 25 with(at_builtin;refine wpList_app (e:=Zbc) (base:=w.heap.size+1+1+1) (B:=fun _=>False) (A:=fun _=>False) rfl (.tmp 108) (.tmp 114) rfl Tryz.underlying40 ZlQ rfl (OVl.out.alloc _) rfl (RdY.singleB (e:=Zbc) (cs:=[.string q.tx,.string q.vl]) (d:=(q.tx,q.vl)) rfl (Blk.new _ _ _)) rfl (fun _ _ h=>h.elim) (N:=m+1) (by rw[HEN.out];rfl) (by unfold maxLen;omega) (by omega) (by simp;omega) ?_;intro A9 c9 w9 o9 M9 _;have BS9:=zh ((BS.out.alloc _).mod M9 (Zai OVl.out BS.out (by decide)));have f30:=BS9.out.frozen 30;have q30:=BS9.out.cell 30;rw[Ze6 HS.out.t] at q30)
       have HOR:=zh OVl.out.row
       have M59:=(Mod.of_ext ((Ext.refl wr).alloc _)).trans M9
       obtain⟨w11,hw11⟩:=zn (w9.setCell ⟨w.heap.size,30,none⟩ (.slice A9 (m+1) c9))
       have M11:Mod (fun k=>k=w.heap.size) w9 w11:=by rw[hw11];exact(Mod.refl _ _).set1 _
       have BS11:=zh (show Blk w11 w.heap.size 42 (sesV {s with env:=s.env++ [(q.tx,q.vl)]} (.slice A9 (m+1) c9)) from by
        have h9:=BS9.out.set_ 30 (.slice A9 (m+1) c9)
        rw[Zew HS.out.t] at h9
        rw[hw11]
        exact h9)
       rw[←hw11]
       clear hw11
       have EE:=zh (show Ext w w11 from Mod.toExt (Mod.toExt EE.out M59 (fun k hk he=>by have:=(HOR.out k he).1;omega)) M11 (fun k hk he=>by omega))
       have O11:=zh (o9.mod M11 (fun k hk he=>Zai o9 BS9.out (by decide) (by rw[hk,he])) (fun k _ hk=>hk.elim))
       have BR:=zh ((BR.out.mod M59 (fun he=>by have:=(HOR.out _ he).1;omega)).mod M11 (by omega))
       have BA:=zh ((BA.out.mod M59 (fun he=>by have:=(HOR.out _ he).1;omega)).mod M11 (by omega))
       clear M59 M9 M11 BS9 f30 q30 o9
       go_wp2_with(first|(refine wpList_load_row rfl 42 _ rfl _ rfl 42 _ _ _ BS11.out Tryz.underlying42 rfl (hiSA ({s with env:=s.env++ [(q.tx,q.vl)]}) _ HS.out.t) ?_)|(refine Md.wpList_build_eq rfl 51 _ rfl (L:=acV acY) ?_ ?_;·(simp[go_sem];exact(ZcC true)))|(refine wpList_store_M rfl 42 _ _ rfl (w.heap.size+1) _ rfl rfl 42 _ BR.out (hiSA ({s with env:=s.env++ [(q.tx,q.vl)]}) _ HS.out.t) (by show ses0.length=(sesC ({s with env:=s.env++ [(q.tx,q.vl)]}) (.slice A9 (m+1) c9)).length;rw[sesC_len (s:={s with env:=s.env++ [(q.tx,q.vl)]}) HS.out.t];rfl) (sesC_one _ _ rfl) ?_;intro w5 P5 M5)|(refine wpList_store_M rfl 51 _ _ rfl (w.heap.size+1+1) _ rfl rfl 51 _ (BA.out.mod M5 (by omega)) hiA rfl (by simp[acC,Value.oneCell']) ?_;intro w6 P6 M6)|fail)
       have P56:=P5.mod M6 (by omega)
       refine bodyPost_ret_by (Zad Tryz.results12 _ _ (w.heap.size+1) (w.heap.size+1+1) 42 51 _ _ _ _ _ _ rfl rfl P56 P6 Tryz.underlying42 rfl (hiSA ({s with env:=s.env++ [(q.tx,q.vl)]}) _ HS.out.t) Tryz.underlying51 rfl hiA) rfl ?_
       have hz:res=({s with env:=s.env++ [(q.tx,q.vl)]},acY):=by rw[←HRES.out];(show ZcG s q=_;exact Zoe HST.out HI.out (by rw[HEN.out];exact h16))
       rw[hz]
       exact⟨_,rfl,((O11.out.mod M5 (fun k hk he=>by have:=(O11.out.row k hk).1;omega) (fun k _ hk=>hk.elim)).mod M6 (fun k hk he=>by have:=(O11.out.row k hk).1;omega) (fun k _ hk=>hk.elim)).lower (by omega),Mod.toExt (Mod.toExt EE.out M5 (fun k hk he=>by omega)) M6 (fun k hk he=>by omega)⟩
 ·as_aux_lemma=>
   rw[show q.k=1 from HQK.out] at k0
   have hiT:(Tryz.prog.info? 39).map (·.size)=some (Md.decL q.mo Md.Zca).1.arr.size:=by
    rw[Md.Tm.size (Md.ZbO q.mo.length q.mo Md.Zca (Nat.le_refl _) Md.Zbb HQB.out)]
    kernel_rfl
   have hiZ:=zi Tryz.prog 35 4
   have HDF:=zh (fun w'=>Md.Zgy w')
   have HDE:=zh (fun w' (E:Ext w5 w')=>Md.Zhp Md.Zca (.slice Av mn cv) q.mo w' Md.Zbb (RdN.ext RV.out E) HQB.out)
   have HRI:=zh (fun w'=>Md.Zjv (Md.decL q.mo Md.Zca).1 w' (Md.ZbO q.mo.length q.mo Md.Zca (Nat.le_refl _) Md.Zbb HQB.out))
   have HTO:=zh (Md.ZbO q.mo.length q.mo Md.Zca (Nat.le_refl _) Md.Zbb HQB.out)
   have HPD:=zh (fun t (h:(Md.decL q.mo Md.Zca).1=t)=>Zls s q h)
   obtain⟨⟨T,ec⟩,hq9⟩:∃x,Md.decL q.mo Md.Zca=x:=⟨_,rfl⟩
   have HDQ:=zh hq9
   rw[hq9] at HDE HRI HTO hiT
   obtain⟨ri,hri⟩:∃b,Md.rightL T=b:=⟨_,rfl⟩
   have HRQ:=zh hri
   dsimp only at HDE HRI HTO hiT
   rw[hri] at HRI
   have k1:=BQ.out.cell 1
   have k8:=BQ.out.cell 8
   have z4:=BQ.out.cell 4
   have z5:=BQ.out.cell 5
   have z6:=BQ.out.cell 6
   have z7:=BQ.out.cell 7
   have q0:=BS.out.cell 0
   have q31:=BS.out.cell 31
   rw[Zsb] at q0
   rw[ZgS HS.out.t] at q31
   simp only[zG] at k1 k8 z4 z5 z6 z7
   have HRNG:=zh (show ∀w':World,(∀i,w'.cell? ⟨n3,i,none⟩=w5.cell? ⟨n3,i,none⟩)→w'.rangeAt n3 4 [.int .u32 q.c1,.int .u32 q.c2,.int .u32 q.c3,.int .u32 q.c4] from fun w' hc i u hu=>by
    rw[hc]
    rcases i with _|_|_|_|i
    ·exact z4.trans hu
    ·exact z5.trans hu
    ·exact z6.trans hu
    ·exact z7.trans hu
    ·simp at hu)
   clear z4 z5 z6 z7 hq9 hri
   go_upto_region 7 with fail
   go_cut [12,13] (fun s12 s13 wx=>∃n2:Nat,s12= .pointer (some ⟨n2,0,none⟩)∧s13= .int .i64 ec∧w5.heap.size≤n2∧Hid (Blk wx n2 39 T.arr)∧Ext w5 wx)
   case first=>
    refine zg (fun w'=>Ext w5 w') (Ext.drew (Ext.refl _)) fun hHeld=>?_
    have EH:Ext w5 w5.drew:=Ext.drew (Ext.refl _)
    generalize w5.drew=wc at*
    refine zr 0 ?_
    refine zv 1 k8 ?_
    clear hHeld
    iterate 3
     all_goals (first|refine wpAnyH_ready (rs:=[2]) (by decide+kernel) (by simp) ?_|refine wpAnyH_ready (rs:=[2,7]) (by decide+kernel) (by simp) ?_|refine wpAnyH_ready (rs:=[3]) (by decide+kernel) (by simp) ?_|refine wpAnyH_ready (rs:=[3,7]) (by decide+kernel) (by simp) ?_|refine wpAnyH_ready (rs:=[7]) (by decide+kernel) (by simp) ?_)
     all_goals (repeat' (first|exact AllReadyH.nil|refine AllReadyH.cons rfl (fun K hK=>?_) ?_))
     all_goals first
      |(
       go_simp
       go_at_call 32
       refine(HDF.out wc).mono ?_
       rintro e wc ⟨rfl,E3⟩
       (try dsimp only)
       refine zo hK (EH.trans E3) fun hHeld=>?_
       clear hK K hHeld
       (try have B2:=zh (B2.out.ext E3))
       have EH:=EH.trans E3
       (try have LB2:=B2.out.lt)
       clear E3
       )
      |(
       go_simp
       go_at_call 31
       refine(HDE.out wc EH).mono ?_
       rintro e wc ⟨rfl,E3⟩
       (try dsimp only)
       refine zo hK (EH.trans E3) fun hHeld=>?_
       clear hK K hHeld
       (try have B2:=zh (B2.out.ext E3))
       have EH:=EH.trans E3
       (try have LB2:=B2.out.lt)
       clear E3
       have hHeld:Ext w5 wc:=EH
       refine zr 4 ?_
       refine zr 5 ?_
       refine zr 6 ?_
       clear hHeld
       )
      |(
       go_simp
       refine zo hK (EH.alloc (.cells #[.int .u8 0,.int .u8 0,.int .u8 0,.int .u8 0,.int .u8 0,.int .u8 0,.int .u8 0,.int .u8 0,.int .u8 0,.int .u8 0,.int .u8 0,.int .u8 0,.int .u8 0,.int .u8 0,.int .u8 0,.int .u8 0,.int .u8 0,.int .u8 0,.int .u8 0,.int .u64 0,.int .u32 0,.int .u32 0,.int .i64 0,.int .i64 0] 39)) fun hHeld=>?_
       clear hK K hHeld
       have EX:=(Ext.refl wc).alloc (.cells #[.int .u8 0,.int .u8 0,.int .u8 0,.int .u8 0,.int .u8 0,.int .u8 0,.int .u8 0,.int .u8 0,.int .u8 0,.int .u8 0,.int .u8 0,.int .u8 0,.int .u8 0,.int .u8 0,.int .u8 0,.int .u8 0,.int .u8 0,.int .u8 0,.int .u8 0,.int .u64 0,.int .u32 0,.int .u32 0,.int .i64 0,.int .i64 0] 39)
       have B2:=zh (Blk.new wc 39 #[.int .u8 0,.int .u8 0,.int .u8 0,.int .u8 0,.int .u8 0,.int .u8 0,.int .u8 0,.int .u8 0,.int .u8 0,.int .u8 0,.int .u8 0,.int .u8 0,.int .u8 0,.int .u8 0,.int .u8 0,.int .u8 0,.int .u8 0,.int .u8 0,.int .u8 0,.int .u64 0,.int .u32 0,.int .u32 0,.int .i64 0,.int .i64 0])
       obtain⟨n2,hn2⟩:=zm (wc.heap.size)
       have hn2W:w5.heap.size≤n2:=by rw[←hn2];exact EH.size
       have EH:=EH.trans EX
       clear EX
       rw[hn2] at B2⊢
       clear hn2
       generalize wc.alloc _=wc at*
       have LB2:=B2.out.lt
       )
    all_goals
     have hHeld:Ext w5 wc:=EH
     (refine zw 8 fun K hK=>?_;rw[if_pos (by rfl)];refine Zag 39 _ _ rfl (n2) _ rfl rfl 39 _ B2.out hiT (by rw[Md.Tm.size HTO.out];rfl) (Md.Tm.one _) ?_;intro u4 B8 M8;refine zo hK (Mod.toExt hHeld M8 (fun k hk he=>by omega)) fun hHeld=>?_;clear hK K)
     refine zr 9 ?_
     refine zd ?_
     go_wp2_with fail
     go_meet
     exact⟨n2,rfl,rfl,hn2W,zh B8,hHeld⟩
   case rest=>
    obtain⟨n2,rfl,rfl,h2,B2,E02⟩:=hcut
    obtain⟨w6,hw6⟩:=zn (wc)
    subst hw6
    have EE:=zh (EE.out.trans E02)
    have BS:=zh (BS.out.ext E02)
    have OV:=zh (OV.out.ext E02)
    have BR:=zh (BR.out.ext E02)
    have BA:=zh (BA.out.ext E02)
    have k1:=Zaa E02 k1
    have q0:=Zaa E02 q0
    have q31:=Zaa E02 q31
    have BQ:=zh (BQ.out.ext E02)
    have HR6:=zh (HRNG.out _ (fun i=>E02.cell n3 i hlt5))
    have hlt6:=BQ.out.lt
    clear HDF HDE k0 k8 HRNG E02 RV
    cases hpt:s.pty with
    |true=>
     rw[hpt] at q0
     have HPT:=zh hpt
     clear hpt
     go_upto_region 9 with(first|(refine wpList_openG rfl rfl ?_)|fail)
     go_wp2_with(first|(refine wpList_load_row rfl 42 _ rfl _ rfl 42 _ _ _ BS.out Tryz.underlying42 rfl (hiSA (s) _ HS.out.t) ?_)|(refine Md.wpList_build_eq rfl 51 _ rfl (L:=acV acN) ?_ ?_;·(simp[go_sem];exact(ZaB)))|(refine wpList_store_M rfl 42 _ _ rfl (w.heap.size+1) _ rfl rfl 42 _ BR.out (hiSA (s) _ HS.out.t) (by show ses0.length=(sesC (s) (.slice A2 en c2)).length;rw[sesC_len (s:=s) HS.out.t];rfl) (sesC_one _ _ rfl) ?_;intro w5 P5 M5)|(refine wpList_store_M rfl 51 _ _ rfl (w.heap.size+1+1) _ rfl rfl 51 _ (BA.out.mod M5 (by omega)) hiA rfl (by simp[acC,Value.oneCell']) ?_;intro w6 P6 M6)|fail)
     have P56:=P5.mod M6 (by omega)
     refine bodyPost_ret_by (Zad Tryz.results12 _ _ (w.heap.size+1) (w.heap.size+1+1) 42 51 _ _ _ _ _ _ rfl rfl P56 P6 Tryz.underlying42 rfl (hiSA (s) _ HS.out.t) Tryz.underlying51 rfl hiA) rfl ?_
     have hz:res=(s,acN):=by rw[←HRES.out];(show Zcy s q=_;unfold Zcy;rw[if_pos HPT.out])
     rw[hz]
     exact⟨_,rfl,((OV.out.mod M5 (fun k hk he=>by have:=(OV.out.row k hk).1;omega) (fun k _ hk=>hk.elim)).mod M6 (fun k hk he=>by have:=(OV.out.row k hk).1;omega) (fun k _ hk=>hk.elim)).lower (by omega),Mod.toExt (Mod.toExt EE.out M5 (fun k hk he=>by omega)) M6 (fun k hk he=>by omega)⟩
    |false=>
     rw[hpt] at q0
     have HPT:=zh hpt
     clear hpt
     cases hst:s.st with
     |true=>
      rw[hst] at q31
      have HST:=zh hst
      clear hst
      go_upto_region 9 with(first|(refine wpList_openG rfl rfl ?_)|fail)
      go_wp2_with(first|(refine wpList_load_row rfl 42 _ rfl _ rfl 42 _ _ _ BS.out Tryz.underlying42 rfl (hiSA (s) _ HS.out.t) ?_)|(refine Md.wpList_build_eq rfl 51 _ rfl (L:=acV acN) ?_ ?_;·(simp[go_sem];exact(ZaB)))|(refine wpList_store_M rfl 42 _ _ rfl (w.heap.size+1) _ rfl rfl 42 _ BR.out (hiSA (s) _ HS.out.t) (by show ses0.length=(sesC (s) (.slice A2 en c2)).length;rw[sesC_len (s:=s) HS.out.t];rfl) (sesC_one _ _ rfl) ?_;intro w5 P5 M5)|(refine wpList_store_M rfl 51 _ _ rfl (w.heap.size+1+1) _ rfl rfl 51 _ (BA.out.mod M5 (by omega)) hiA rfl (by simp[acC,Value.oneCell']) ?_;intro w6 P6 M6)|fail)
      have P56:=P5.mod M6 (by omega)
      refine bodyPost_ret_by (Zad Tryz.results12 _ _ (w.heap.size+1) (w.heap.size+1+1) 42 51 _ _ _ _ _ _ rfl rfl P56 P6 Tryz.underlying42 rfl (hiSA (s) _ HS.out.t) Tryz.underlying51 rfl hiA) rfl ?_
      have hz:res=(s,acN):=by rw[←HRES.out];(show Zcy s q=_;unfold Zcy;rw[if_neg (by rw[HPT.out];decide),if_pos HST.out])
      rw[hz]
      exact⟨_,rfl,((OV.out.mod M5 (fun k hk he=>by have:=(OV.out.row k hk).1;omega) (fun k _ hk=>hk.elim)).mod M6 (fun k hk he=>by have:=(OV.out.row k hk).1;omega) (fun k _ hk=>hk.elim)).lower (by omega),Mod.toExt (Mod.toExt EE.out M5 (fun k hk he=>by omega)) M6 (fun k hk he=>by omega)⟩
     |false=>
      rw[hst] at q31
      have HST:=zh hst
      clear hst
      by_cases h0:ec=0
      ·subst h0
       go_wp2_with(first|(refine wpList_openG rfl rfl ?_;(refine wpList_load_row rfl 39 _ rfl _ rfl 39 _ _ _ B2.out Tryz.underlying39 rfl hiT ?_))|(refine wpList_openG rfl rfl ?_)|fail)
       refine(HRI.out _).mono ?_
       rintro e w7 ⟨rfl,E7⟩
       have EE:=zh (EE.out.trans E7)
       have BS:=zh (BS.out.ext E7)
       have OV:=zh (OV.out.ext E7)
       have BR:=zh (BR.out.ext E7)
       have BA:=zh (BA.out.ext E7)
       have B2:=zh (B2.out.ext E7)
       have BQ:=zh (BQ.out.ext E7)
       have k1:=Zaa E7 k1
       have HR7:=zh (show w7.rangeAt n3 4 [.int .u32 q.c1,.int .u32 q.c2,.int .u32 q.c3,.int .u32 q.c4] from fun i u hu=>Zaa E7 (HR6.out i u hu))
       have hlt7:=BQ.out.lt
       clear HRI E7 HR6 q0 q31
       cases ri with
       |false=>
        go_upto_region 9 with(first|(refine wpList_openG rfl rfl ?_)|fail)
        go_wp2_with(first|(refine wpList_load_row rfl 42 _ rfl _ rfl 42 _ _ _ BS.out Tryz.underlying42 rfl (hiSA (s) _ HS.out.t) ?_)|(refine Md.wpList_build_eq rfl 51 _ rfl (L:=acV acN) ?_ ?_;·(simp[go_sem];exact(ZaB)))|(refine wpList_store_M rfl 42 _ _ rfl (w.heap.size+1) _ rfl rfl 42 _ BR.out (hiSA (s) _ HS.out.t) (by show ses0.length=(sesC (s) (.slice A2 en c2)).length;rw[sesC_len (s:=s) HS.out.t];rfl) (sesC_one _ _ rfl) ?_;intro w5 P5 M5)|(refine wpList_store_M rfl 51 _ _ rfl (w.heap.size+1+1) _ rfl rfl 51 _ (BA.out.mod M5 (by omega)) hiA rfl (by simp[acC,Value.oneCell']) ?_;intro w6 P6 M6)|fail)
        have P56:=P5.mod M6 (by omega)
        refine bodyPost_ret_by (Zad Tryz.results12 _ _ (w.heap.size+1) (w.heap.size+1+1) 42 51 _ _ _ _ _ _ rfl rfl P56 P6 Tryz.underlying42 rfl (hiSA (s) _ HS.out.t) Tryz.underlying51 rfl hiA) rfl ?_
        have hz:res=(s,acN):=by rw[←HRES.out];(show Zcy s q=_;unfold Zcy;rw[if_neg (by rw[HPT.out];decide),if_neg (by rw[HST.out];decide),HDQ.out,if_neg (by simp),if_neg (by rw[HRQ.out];decide)])
        rw[hz]
        exact⟨_,rfl,((OV.out.mod M5 (fun k hk he=>by have:=(OV.out.row k hk).1;omega) (fun k _ hk=>hk.elim)).mod M6 (fun k hk he=>by have:=(OV.out.row k hk).1;omega) (fun k _ hk=>hk.elim)).lower (by omega),Mod.toExt (Mod.toExt EE.out M5 (fun k hk he=>by omega)) M6 (fun k hk he=>by omega)⟩
       |true=>
        have hB2:=B2.out.lt
        have hn2:¬n2=w.heap.size:=by omega
        have hn3:¬n3=w.heap.size:=by omega
        go_upto_region 10 with(first|(refine wpList_openG rfl rfl ?_)|fail)
        refine zg (fun w'=>Mod (fun k=>k=w.heap.size) w7 w') (Mod.of_ext (Ext.drew (Ext.refl _))) fun hHeld=>?_
        obtain⟨D,hD⟩:=zn (w7.drew)
        have ED:Ext w7 D:=by rw[hD];exact(Ext.refl _).drew
        rw[←hD] at hHeld⊢
        clear hD
        refine zr 0 ?_
        (refine zu 1 (fun _ h=>(h.cell n3 1 hlt7 hn3).trans k1) ?_)
        refine zr 2 ?_
        (refine zU 3 rfl (yieldsIf_load_mid (by rfl) 35 _ rfl _ _ rfl [.int .u32 q.c1,.int .u32 q.c2,.int .u32 q.c3,.int .u32 q.c4] _ (fun w' hSw=>(fun i u hu=>(hSw.cell n3 _ hlt7 hn3).trans (HR7.out i u hu))) Tryz.underlying35 rfl hiZ) ?_)
        (refine zU 4 rfl (Zac (by rfl) 39 _ rfl _ rfl 39 T.arr _ _ (fun w' hSw=>(B2.out.mod hSw hn2)) Tryz.underlying39 rfl hiT) ?_)
        refine zr 5 ?_
        have B5:=zh (BS.out.ext ED)
        have M5:=zh (Mod.of_ext (S:=fun k=>k=w.heap.size) ED)
        have q9:D.cell? ⟨w.heap.size,0,none⟩=some (.bool s.pty):=B5.out.cell 0
        have f9:=B5.out.frozen 0
        have B6:=zh (show Blk (D.setCell ⟨w.heap.size,0,none⟩ (.bool true)) w.heap.size 42 (sesV {s with pty:=true} (.slice A2 en c2)) by have h9:=B5.out.set_ 0 (.bool true);rw[Zob] at h9;exact h9)
        have M6:=zh (M5.out.set1 (o:=0) (.bool true))
        (refine za 6 M6.out fun hHeld=>?_)
        clear q9 f9 B5 M5 hHeld
        generalize D.setCell ⟨w.heap.size,0,none⟩ (.bool true)=D1 at*
        have hHeld:=M6.out
        refine zr 7 ?_
        have q9:D1.cell? ⟨w.heap.size,1,none⟩=some (.string s.term):=B6.out.cell 1
        have f9:=B6.out.frozen 1
        have B7:=zh (show Blk (D1.setCell ⟨w.heap.size,1,none⟩ (.string q.tx)) w.heap.size 42 (sesV {({s with pty:=true}:Sn) with term:=q.tx} (.slice A2 en c2)) by have h9:=B6.out.set_ 1 (.string q.tx);rw[Zoc] at h9;exact h9)
        have M7:=zh (M6.out.set1 (o:=1) (.string q.tx))
        (refine za 8 M7.out fun hHeld=>?_)
        clear q9 f9 B6 M6 hHeld
        generalize D1.setCell ⟨w.heap.size,1,none⟩ (.string q.tx)=D2 at*
        have hHeld:=M7.out
        refine zr 9 ?_
        have hth:D2.there w.heap.size 2 4:=fun t ht=>⟨by
         rw[B7.out.cell]
         rcases t with _|_|_|_|t
         ·rfl
         ·rfl
         ·rfl
         ·rfl
         ·omega,B7.out.frozen _⟩
        have B8:=zh (show Blk (D2.setCells w.heap.size 2 [.int .u32 q.c1,.int .u32 q.c2,.int .u32 q.c3,.int .u32 q.c4]) w.heap.size 42 (sesV (({({s with pty:=true}:Sn) with term:=q.tx}:Sn).size q) (.slice A2 en c2)) from Blk.setCells [.int .u32 q.c1,.int .u32 q.c2,.int .u32 q.c3,.int .u32 q.c4] 2 D2 _ B7.out (by rw[List.size_toArray,sesC_len (s:={({s with pty:=true}:Sn) with term:=q.tx}) HS.out.t];simp))
        have M8:=zh (Mod.setCells [.int .u32 q.c1,.int .u32 q.c2,.int .u32 q.c3,.int .u32 q.c4] 2 w7 D2 M7.out)
        (refine zw 10 fun K hK=>?_;rw[if_pos (by rfl)];refine wp_store_mid 35 _ _ rfl (w.heap.size) (2) (#[.int .u32 q.c1,.int .u32 q.c2,.int .u32 q.c3,.int .u32 q.c4]) rfl rfl hth hiZ (by simp[Value.oneCell']) ?_;refine zo hK M8.out fun hHeld=>?_;clear hK K)
        clear hth B7 M7 hHeld
        generalize World.setCells D2 w.heap.size 2 [.int .u32 q.c1,.int .u32 q.c2,.int .u32 q.c3,.int .u32 q.c4]=D3 at*
        have hHeld:=M8.out
        refine zr 11 ?_
        have hS8:(({({s with pty:=true}:Sn) with term:=q.tx}:Sn).size q).t.Ok:=HS.out.t
        have ht24:T.cells.length=24:=Md.Tm.len HTO.out
        have hth:D3.there w.heap.size 6 T.arr.size:=fun t ht=>⟨by
         rw[Md.Tm.size HTO.out] at ht
         have h6:(({({s with pty:=true}:Sn) with term:=q.tx}:Sn).size q).t.cells[t]?≠none:=by rw[List.getElem?_eq_getElem (by rw[Md.Tm.len hS8];exact ht)];simp
         obtain⟨u,hu⟩:=Option.ne_none_iff_exists'.1 h6
         rw[Zak B8.out (by rw[List.getElem?_toArray];exact ZsX hu)];rfl,B8.out.frozen _⟩
        have B9:=zh (show Blk (D3.setCells w.heap.size 6 T.arr.toList) w.heap.size 42 (sesV (s.ptyd q) (.slice A2 en c2)) by
         have h9:=Blk.setCells T.cells 6 D3 _ B8.out (by rw[List.size_toArray,sesC_len hS8,ht24];decide)
         rw[Zsc hS8 HTO.out] at h9
         rw[HPD.out T (by rw[HDQ.out])]
         exact h9)
        have M9:=zh (show Mod (fun k=>k=w.heap.size) w7 (D3.setCells w.heap.size 6 T.arr.toList) from Mod.setCells T.arr.toList 6 w7 D3 M8.out)
        have hPt:(s.ptyd q).t.Ok:=by rw[HPD.out T (by rw[HDQ.out])];exact HTO.out
        refine zw 12 fun K hK=>?_
        rw[if_pos (by rfl)]
        refine wp_store_mid 39 _ _ rfl w.heap.size 6 T.arr rfl rfl hth hiT (Md.Tm.one T) ?_
        refine zo hK M9.out fun hHeld=>?_
        clear hK K
        refine zd ?_
        clear hth hHeld B8 M8 BS
        obtain⟨w9,hw9⟩:=zn (D3.setCells w.heap.size 6 T.arr.toList)
        rw[←hw9] at B9 M9⊢
        clear hw9
        have EE:=zh (show Ext w w9 from Mod.toExt EE.out M9.out (fun k hk he=>by omega))
        have OV:=zh (OV.out.mod M9.out (fun k hk he=>by have:=(OV.out.row k hk).1;omega) (fun k _ hk=>hk.elim))
        have BR:=zh (BR.out.mod M9.out (by omega))
        have BA:=zh (BA.out.mod M9.out (by omega))
        clear M9 BQ B2
        go_wp2_with(first|(refine wpList_load_row rfl 42 _ rfl _ rfl 42 _ _ _ B9.out Tryz.underlying42 rfl (hiSA ((s.ptyd q)) _ hPt) ?_)|(refine Md.wpList_build_eq rfl 51 _ rfl (L:=acV acY) ?_ ?_;·(simp[go_sem];exact(ZcC true)))|(refine wpList_store_M rfl 42 _ _ rfl (w.heap.size+1) _ rfl rfl 42 _ BR.out (hiSA ((s.ptyd q)) _ hPt) (by show ses0.length=(sesC ((s.ptyd q)) (.slice A2 en c2)).length;rw[sesC_len (s:=(s.ptyd q)) hPt];rfl) (sesC_one _ _ rfl) ?_;intro w5 P5 M5)|(refine wpList_store_M rfl 51 _ _ rfl (w.heap.size+1+1) _ rfl rfl 51 _ (BA.out.mod M5 (by omega)) hiA rfl (by simp[acC,Value.oneCell']) ?_;intro w6 P6 M6)|fail)
        have P56:=P5.mod M6 (by omega)
        refine bodyPost_ret_by (Zad Tryz.results12 _ _ (w.heap.size+1) (w.heap.size+1+1) 42 51 _ _ _ _ _ _ rfl rfl P56 P6 Tryz.underlying42 rfl (hiSA ((s.ptyd q)) _ hPt) Tryz.underlying51 rfl hiA) rfl ?_
        have hz:res=((s.ptyd q),acY):=by rw[←HRES.out];(show Zcy s q=_;unfold Zcy;rw[if_neg (by rw[HPT.out];decide),if_neg (by rw[HST.out];decide),HDQ.out,if_neg (by simp),if_pos HRQ.out])
        rw[hz]
        exact⟨_,rfl,((OV.out.mod M5 (fun k hk he=>by have:=(OV.out.row k hk).1;omega) (fun k _ hk=>hk.elim)).mod M6 (fun k hk he=>by have:=(OV.out.row k hk).1;omega) (fun k _ hk=>hk.elim)).lower (by omega),Mod.toExt (Mod.toExt EE.out M5 (fun k hk he=>by omega)) M6 (fun k hk he=>by omega)⟩
      ·have hec:(ec==0)=false:=by simpa using h0
       go_upto_region 9 with(first|(refine wpList_openG rfl rfl ?_)|fail)
       go_wp2_with(first|(refine wpList_load_row rfl 42 _ rfl _ rfl 42 _ _ _ BS.out Tryz.underlying42 rfl (hiSA (s) _ HS.out.t) ?_)|(refine Md.wpList_build_eq rfl 51 _ rfl (L:=acV acN) ?_ ?_;·(simp[go_sem];exact(ZaB)))|(refine wpList_store_M rfl 42 _ _ rfl (w.heap.size+1) _ rfl rfl 42 _ BR.out (hiSA (s) _ HS.out.t) (by show ses0.length=(sesC (s) (.slice A2 en c2)).length;rw[sesC_len (s:=s) HS.out.t];rfl) (sesC_one _ _ rfl) ?_;intro w5 P5 M5)|(refine wpList_store_M rfl 51 _ _ rfl (w.heap.size+1+1) _ rfl rfl 51 _ (BA.out.mod M5 (by omega)) hiA rfl (by simp[acC,Value.oneCell']) ?_;intro w6 P6 M6)|fail)
       have P56:=P5.mod M6 (by omega)
       refine bodyPost_ret_by (Zad Tryz.results12 _ _ (w.heap.size+1) (w.heap.size+1+1) 42 51 _ _ _ _ _ _ rfl rfl P56 P6 Tryz.underlying42 rfl (hiSA (s) _ HS.out.t) Tryz.underlying51 rfl hiA) rfl ?_
       have hz:res=(s,acN):=by rw[←HRES.out];(show Zcy s q=_;unfold Zcy;rw[if_neg (by rw[HPT.out];decide),if_neg (by rw[HST.out];decide),HDQ.out,if_pos (by simpa using h0)])
       rw[hz]
       exact⟨_,rfl,((OV.out.mod M5 (fun k hk he=>by have:=(OV.out.row k hk).1;omega) (fun k _ hk=>hk.elim)).mod M6 (fun k hk he=>by have:=(OV.out.row k hk).1;omega) (fun k _ hk=>hk.elim)).lower (by omega),Mod.toExt (Mod.toExt EE.out M5 (fun k hk he=>by omega)) M6 (fun k hk he=>by omega)⟩
 ·rcases hkk with rfl|rfl|rfl
  all_goals (first|rw[show q.k=7 from HQK.out] at k0|rw[show q.k=9 from HQK.out] at k0|rw[show q.k=10 from HQK.out] at k0)
  all_goals
   go_upto_region 50 with fail
   go_wp2_with(first|(refine wpList_load_row rfl 42 _ rfl _ rfl 42 _ _ _ BS.out Tryz.underlying42 rfl (hiSA (s) _ HS.out.t) ?_)|(refine Md.wpList_build_eq rfl 51 _ rfl (L:=acV acN) ?_ ?_;·(simp[go_sem];exact(ZaB)))|(refine wpList_store_M rfl 42 _ _ rfl (w.heap.size+1) _ rfl rfl 42 _ BR.out (hiSA (s) _ HS.out.t) (by show ses0.length=(sesC (s) (.slice A2 en c2)).length;rw[sesC_len (s:=s) HS.out.t];rfl) (sesC_one _ _ rfl) ?_;intro w5 P5 M5)|(refine wpList_store_M rfl 51 _ _ rfl (w.heap.size+1+1) _ rfl rfl 51 _ (BA.out.mod M5 (by omega)) hiA rfl (by simp[acC,Value.oneCell']) ?_;intro w6 P6 M6)|fail)
   have P56:=P5.mod M6 (by omega)
   refine bodyPost_ret_by (Zad Tryz.results12 _ _ (w.heap.size+1) (w.heap.size+1+1) 42 51 _ _ _ _ _ _ rfl rfl P56 P6 Tryz.underlying42 rfl (hiSA (s) _ HS.out.t) Tryz.underlying51 rfl hiA) rfl ?_
   have hz:res=(s,acN):=by rw[←HRES.out];rfl
   rw[hz]
   exact⟨_,rfl,((OV.out.mod M5 (fun k hk he=>by have:=(OV.out.row k hk).1;omega) (fun k _ hk=>hk.elim)).mod M6 (fun k hk he=>by have:=(OV.out.row k hk).1;omega) (fun k _ hk=>hk.elim)).lower (by omega),Mod.toExt (Mod.toExt EE.out M5 (fun k hk he=>by omega)) M6 (fun k hk he=>by omega)⟩
 ·rcases hkk with rfl|rfl|rfl
  all_goals first
   |(
    rw[show q.k=3 from HQK.out] at k0
    go_upto_region 34 with fail
    )
   |(
    rw[show q.k=4 from HQK.out] at k0
    have k1:=BQ.out.cell 1
    simp only[zG] at k1
    go_wp2_with fail
    refine(ZgR q.tx _ HQT.out).mono ?_
    rintro e w6 ⟨rfl,E6⟩
    have EE:=zh (EE.out.trans E6)
    have BS:=zh (BS.out.ext E6)
    have OV:=zh (OV.out.ext E6)
    have BR:=zh (BR.out.ext E6)
    have BA:=zh (BA.out.ext E6)
    have k0:=Zaa E6 k0
    clear E6 k1
    go_upto_region 34 with fail
    )
   |(
    rw[show q.k=5 from HQK.out] at k0
    have k1:=BQ.out.cell 1
    simp only[zG] at k1
    go_upto_region 34 with fail
    )
  all_goals
   go_wp2_with fail
   refine(ZlT (.slice Ap ln cp) l _ _ (HP.out.ext EE.out)).mono ?_
   rintro e w7 ⟨rfl,E7⟩
   have EE:=zh (EE.out.trans E7)
   have BS:=zh (BS.out.ext E7)
   have OV:=zh (OV.out.ext E7)
   have BR:=zh (BR.out.ext E7)
   have BA:=zh (BA.out.ext E7)
   clear E7
   generalize hf:fndP (l.map (·.1)) _=f
   have HF:=zh hf
   obtain⟨fi,hfi⟩:=zm ((if 0≤f then f else 0))
   obtain⟨fb,hfb⟩:=zm (decide (0≤f))
   rw[hfi,hfb]
   have HFI:=zh hfi
   have HFB:=zh hfb
   have q31:=BS.out.cell 31
   rw[ZgS HS.out.t] at q31
   clear hf hfi hfb
   cases hst:s.st with
   |true=>
    rw[hst] at q31
    have HST:=zh hst
    clear hst
    go_upto_region 36 with(first|(refine wpList_openG rfl rfl ?_)|fail)
    go_wp2_with(first|(refine wpList_load_row rfl 42 _ rfl _ rfl 42 _ _ _ BS.out Tryz.underlying42 rfl (hiSA (s) _ HS.out.t) ?_)|(refine Md.wpList_build_eq rfl 51 _ rfl (L:=acV acN) ?_ ?_;·(simp[go_sem];exact(ZaB)))|(refine wpList_store_M rfl 42 _ _ rfl (w.heap.size+1) _ rfl rfl 42 _ BR.out (hiSA (s) _ HS.out.t) (by show ses0.length=(sesC (s) (.slice A2 en c2)).length;rw[sesC_len (s:=s) HS.out.t];rfl) (sesC_one _ _ rfl) ?_;intro w5 P5 M5)|(refine wpList_store_M rfl 51 _ _ rfl (w.heap.size+1+1) _ rfl rfl 51 _ (BA.out.mod M5 (by omega)) hiA rfl (by simp[acC,Value.oneCell']) ?_;intro w6 P6 M6)|fail)
    have P56:=P5.mod M6 (by omega)
    refine bodyPost_ret_by (Zad Tryz.results12 _ _ (w.heap.size+1) (w.heap.size+1+1) 42 51 _ _ _ _ _ _ rfl rfl P56 P6 Tryz.underlying42 rfl (hiSA (s) _ HS.out.t) Tryz.underlying51 rfl hiA) rfl ?_
    have hz:res=(s,acN):=by rw[←HRES.out];(show begN s (fndP _ _)=_;unfold begN;rw[if_neg (fun h9=>by rw[HST.out] at h9;cases h9.1)])
    rw[hz]
    exact⟨_,rfl,((OV.out.mod M5 (fun k hk he=>by have:=(OV.out.row k hk).1;omega) (fun k _ hk=>hk.elim)).mod M6 (fun k hk he=>by have:=(OV.out.row k hk).1;omega) (fun k _ hk=>hk.elim)).lower (by omega),Mod.toExt (Mod.toExt EE.out M5 (fun k hk he=>by omega)) M6 (fun k hk he=>by omega)⟩
   |false=>
    rw[hst] at q31
    have HST:=zh hst
    clear hst
    cases fb with
    |false=>
     go_upto_region 36 with(first|(refine wpList_openG rfl rfl ?_)|fail)
     go_wp2_with(first|(refine wpList_load_row rfl 42 _ rfl _ rfl 42 _ _ _ BS.out Tryz.underlying42 rfl (hiSA (s) _ HS.out.t) ?_)|(refine Md.wpList_build_eq rfl 51 _ rfl (L:=acV acN) ?_ ?_;·(simp[go_sem];exact(ZaB)))|(refine wpList_store_M rfl 42 _ _ rfl (w.heap.size+1) _ rfl rfl 42 _ BR.out (hiSA (s) _ HS.out.t) (by show ses0.length=(sesC (s) (.slice A2 en c2)).length;rw[sesC_len (s:=s) HS.out.t];rfl) (sesC_one _ _ rfl) ?_;intro w5 P5 M5)|(refine wpList_store_M rfl 51 _ _ rfl (w.heap.size+1+1) _ rfl rfl 51 _ (BA.out.mod M5 (by omega)) hiA rfl (by simp[acC,Value.oneCell']) ?_;intro w6 P6 M6)|fail)
     have P56:=P5.mod M6 (by omega)
     refine bodyPost_ret_by (Zad Tryz.results12 _ _ (w.heap.size+1) (w.heap.size+1+1) 42 51 _ _ _ _ _ _ rfl rfl P56 P6 Tryz.underlying42 rfl (hiSA (s) _ HS.out.t) Tryz.underlying51 rfl hiA) rfl ?_
     have hz:res=(s,acN):=by rw[←HRES.out];(show begN s (fndP _ _)=_;unfold begN;(try unfold shB);rw[HF.out,if_neg (fun h9=>by have h8:=HFB.out;rw[decide_eq_false_iff_not] at h8;exact h8 h9.2)])
     rw[hz]
     exact⟨_,rfl,((OV.out.mod M5 (fun k hk he=>by have:=(OV.out.row k hk).1;omega) (fun k _ hk=>hk.elim)).mod M6 (fun k hk he=>by have:=(OV.out.row k hk).1;omega) (fun k _ hk=>hk.elim)).lower (by omega),Mod.toExt (Mod.toExt EE.out M5 (fun k hk he=>by omega)) M6 (fun k hk he=>by omega)⟩
    |true=>
     have hf0:0≤f:=by have h8:=HFB.out;rwa [decide_eq_true_eq] at h8
     obtain rfl:f=fi:=by have h8:=HFI.out;rwa [if_pos hf0] at h8
     have HF0:=zh hf0
     have f31:=BS.out.frozen 31
     clear hf0
     go_upto_region 38 with(first|(refine wpList_openG rfl rfl ?_)|fail)
     obtain⟨w8,hw8⟩:=zn (w7.setCell ⟨w.heap.size,31,none⟩ (.bool true))
     have M8:Mod (fun k=>k=w.heap.size) w7 w8:=by rw[hw8];exact(Mod.refl _ _).set1 _
     have BS8:=zh (show Blk w8 w.heap.size 42 (sesV {s with st:=true} (.slice A2 en c2)) from by
      have h9:=BS.out.set_ 31 (.bool true)
      rw[ZlU HS.out.t] at h9
      rw[hw8]
      exact h9)
     rw[←hw8]
     clear hw8
     have EE:=zh (show Ext w w8 from Mod.toExt EE.out M8 (fun k hk he=>by omega))
     have OV:=zh (OV.out.mod M8 (fun k hk he=>by have:=(OV.out.row k hk).1;omega) (fun k _ hk=>hk.elim))
     have BR:=zh (BR.out.mod M8 (by omega))
     have BA:=zh (BA.out.mod M8 (by omega))
     clear M8 BS q31 f31
     go_wp2_with(first|(refine wpList_load_row rfl 42 _ rfl _ rfl 42 _ _ _ BS8.out Tryz.underlying42 rfl (hiSA ({s with st:=true}) _ HS.out.t) ?_)|(refine Md.wpList_build_eq rfl 51 _ rfl (L:=acV ⟨true,1,f,0,0,0,0,0⟩) ?_ ?_;·(simp[go_sem];exact(ZlW f)))|(refine wpList_store_M rfl 42 _ _ rfl (w.heap.size+1) _ rfl rfl 42 _ BR.out (hiSA ({s with st:=true}) _ HS.out.t) (by show ses0.length=(sesC ({s with st:=true}) (.slice A2 en c2)).length;rw[sesC_len (s:={s with st:=true}) HS.out.t];rfl) (sesC_one _ _ rfl) ?_;intro w5 P5 M5)|(refine wpList_store_M rfl 51 _ _ rfl (w.heap.size+1+1) _ rfl rfl 51 _ (BA.out.mod M5 (by omega)) hiA rfl (by simp[acC,Value.oneCell']) ?_;intro w6 P6 M6)|fail)
     have P56:=P5.mod M6 (by omega)
     refine bodyPost_ret_by (Zad Tryz.results12 _ _ (w.heap.size+1) (w.heap.size+1+1) 42 51 _ _ _ _ _ _ rfl rfl P56 P6 Tryz.underlying42 rfl (hiSA ({s with st:=true}) _ HS.out.t) Tryz.underlying51 rfl hiA) rfl ?_
     have hz:res=({s with st:=true},⟨true,1,f,0,0,0,0,0⟩):=by rw[←HRES.out];(show begN s (fndP _ _)=_;unfold begN;(try unfold shB);rw[HF.out,if_pos ⟨HST.out,HF0.out⟩])
     rw[hz]
     exact⟨_,rfl,((OV.out.mod M5 (fun k hk he=>by have:=(OV.out.row k hk).1;omega) (fun k _ hk=>hk.elim)).mod M6 (fun k hk he=>by have:=(OV.out.row k hk).1;omega) (fun k _ hk=>hk.elim)).lower (by omega),Mod.toExt (Mod.toExt EE.out M5 (fun k hk he=>by omega)) M6 (fun k hk he=>by omega)⟩
end Go.Proofs.YtmmhcllibpmfnaaGreatDoor
namespace Go.Proofs.YtmmhcllibpmfnaaGreatDoor
open Go.RowKit Go.Kb Go.Kb.Frame
theorem ZqD {b:Bool}{c:Ch}(h:0≤c.re∧c.re≤4294967295):MgV (ansM (ansK b) c):=⟨Zot h,Zgp h,by cases b<;>simp[ansM,ansK]⟩
structure One (k ch se co:Int)(w:World)(v:Value):Prop where
 sl:∃b c,v= .slice (some ⟨b,0,none⟩) 1 c∧w.cell? ⟨b,0,none⟩=some (.int .i64 k)∧w.cell? ⟨b,1,none⟩=some (.int .u32 ch)∧w.cell? ⟨b,2,none⟩=some (.int .u32 se)∧w.cell? ⟨b,5,none⟩=some (.int .u32 co)
theorem One.ext {k ch se co:Int}{w w':World}{v:Value}(h:One k ch se co w v)(E:Ext w w'):One k ch se co w' v:=by
 obtain⟨b,c,hv,h1,h2,h3,h4⟩:=h.sl
 exact⟨b,c,hv,(E.cell _ _ (World.block_lt_of_cell? w _ h1)).trans h1,(E.cell _ _ (World.block_lt_of_cell? w _ h2)).trans h2,(E.cell _ _ (World.block_lt_of_cell? w _ h3)).trans h3,(E.cell _ _ (World.block_lt_of_cell? w _ h4)).trans h4⟩
theorem ZqE {k ch se co:Int}(m:Mg)(v:Value)(w:World){base:Nat}(h:OwnS Ub8 5 base (fun _=>False) w v (pkM m))(hm:MgV m)(h0:(rM m).k=k)(h1:(rM m).ch=ch)(h2:(rM m).se=se)(h5:(rM m).co=co):
 Calls Tryz.prog 15 #[v] w fun e w'=>∃u,e= .returned (.tuple #[u,.bool true])∧One k ch se co w' u∧Ext w w':=by
 subst h0 h1 h2 h5
 refine(ZiA [m] v w (by rw[Zqw];exact RdS.ri h.rdT) (fun x hx=>by simp at hx;rw[hx];exact hm) (by simp)).mono ?_
 rintro e w' ⟨u,rfl,ho,E⟩
 refine⟨u,rfl,⟨?_⟩,E⟩
 have hu:OwnS MgR 62 w.heap.size (fun k=>w.heap.size≤k) w' u [rM m]:=ho
 obtain⟨A,c,rfl,-,-⟩:=hu.shape
 obtain⟨g,rfl,-,-⟩:=OwnS.addr (n:=1) hu (by omega)
 obtain⟨b,off,m2,At,ct,hb,hra,hd,-⟩:=Zpc (n:=1) hu.rdT.y (show 0<1 by omega)
 simp only[Option.some.injEq,Addr.mk.injEq] at hb
 obtain⟨rfl,rfl,-⟩:=hb
 obtain rfl:rM m=m2:=by
  have h9:=hd.out
  simpa using h9
 have k0:=hra.out 0 _ rfl
 have k1:=hra.out 1 _ rfl
 have k2:=hra.out 2 _ rfl
 have k5:=hra.out 5 _ rfl
 exact⟨_,c,rfl,k0,k1,k2,k5⟩
theorem ZhP (v:Value)(l:List (ByteArray×List Po))(w:World)(h:RdY PqR (fun _=>True) w v l)(hf:ZlH l):Calls Tryz.prog 6 #[v,.slice none 0 0] w (Zsx w):=by
 have HRF:=zh (ZoG v l w h hf)
 clear h hf
 go_enter Tryz.func6,Tryz.ntmps6
 go_wp2
 go_loopw [5,10] (fun s i wr=>s= .int .i64 0∧i= .int .i64 0∧wr=w) (fun _ _ _=>0)
 case atStart=>exact⟨rfl,rfl,rfl⟩
 case round=>
  obtain⟨rfl,rfl,rfl⟩:=hrel
  go_wp2_with fail
  refine(HRF.out).mono ?_
  rintro e w1 ⟨u,rfl,R1,E1⟩
  go_wp2_with fail
  refine(Zn5 u l w1 R1).mono ?_
  rintro e w2 ⟨q,rfl,E2⟩
  have E02:=E1.trans E2
  clear HRF R1 E1 E2
  cases q with
  |true=>
   go_wp2_with(first|(refine wpList_openG rfl rfl ?_)|fail)
   go_ret
   exact⟨_,rfl,E02⟩
  |false=>
   go_wp2_with(first|(refine wpList_openG rfl rfl ?_)|fail)
   go_ret
   exact⟨_,rfl,E02⟩
theorem SwM.fresh {base:Nat}{w0 w w':World}(h:SwM base none w w')(E:Ext w0 w)(hb:w0.heap.size≤base):Ext w0 w':=
 Mod.toExt E h (fun k hk he=>he.elim (fun h9=>by have:=h9.1;omega) (fun h9=>by cases h9))
theorem ZlZ:MgV (ZaI [] op5):=⟨⟨⟨by decide,by decide⟩,⟨by simp[ZaI],by simp[ZaI]⟩,⟨by simp[ZaI],by simp[ZaI]⟩,⟨by simp[ZaI],by simp[ZaI]⟩,⟨by simp[ZaI],by simp[ZaI]⟩,by show(⟨#[]⟩:ByteArray).size≤_;decide,rfl,by simp[ZaI],fun x hx=>by simp[ZaI] at hx⟩,ZeZ ⟨by decide,by decide⟩ (by simp),.inl rfl⟩
def ZqF (l:List (ByteArray×List Po))(w:World)(e:Ending)(w':World):Prop:=
 (e= .returned (.tuple #[.pointer none,.bool false])∧¬CkOk l∧Ext w w')∨
 (CkOk l∧∃g kb base Ak ck,e= .returned (.tuple #[.pointer (some ⟨g,0,none⟩),.bool true])∧w.heap.size≤base∧Zdy g kb base (l.map (·.1)) (svQ kb base (.slice Ak (l.map (·.1)).length ck) ch5 sn0 (.slice none 0 0) []) none w'∧Ext w w')
theorem Zl0:Tryz.prog.built 62 [(0,.int .i64 90),(6,.string ⟨#[115,101,115,115,105,111,110]⟩),(2,.int .u32 50),(3,.int .u32 100),(4,.int .u32 100)]=some (mgA op5 (.slice none 0 0)):=by kernel_rfl
theorem ZgT (v:Value)(l:List (ByteArray×List Po))(w:World)(h:RdY PqR (fun _=>True) w v l)(hf:ZlH l)(hz:∀d∈l,d.1.size≤9223372036854775807):
 Calls Tryz.prog 9 #[v,.int .u32 100,.int .u32 100] w (ZqF l w):=by
 have HTO:=zh (Zr3 v l w h hf)
 have HZ:=zh hz
 unfold ZqF
 obtain⟨ns,hns⟩:=zm (l.map (·.1))
 rw[hns]
 have HNS:=zh hns
 clear h hf hz hns
 go_enter Tryz.func9,Tryz.ntmps9
 go_wp2_with fail
 refine(HTO.out).mono ?_
 rintro e w1 ⟨u,rfl,R1,E1⟩
 have HNW:=zh (Zqp u l w1 R1 HZ.out)
 unfold ZrW at HNW
 have HE1:=zh E1
 clear HTO R1 E1 HZ
 go_wp2_with fail
 refine(HNW.out).mono ?_
 rintro e w2 (⟨x,rfl,hx,hnc,E2⟩|⟨hck,g,kb,Ak,ck,rfl,hsv,E2⟩)
 ·have HNC:=zh hnc
  have hx0:¬x=0:=hx
  have HE2:=zh (HE1.out.trans E2)
  clear hnc hx HNW E2 HE1
  go_wp2
  go_ret2
  exact .inl ⟨rfl,HNC.out,HE2.out⟩
 ·have HCK:=zh hck
  have HE2:=zh (HE1.out.trans E2)
  obtain⟨base,hbase⟩:=zm (w1.heap.size)
  rw[hbase] at hsv
  have HB:=zh (show w.heap.size≤base by have:=HE1.out.size;omega)
  rw[HNS.out] at hsv
  have HSV:=zh hsv
  have HPK:=zh (ZeV op5 (.slice none 0 0) w2 (RdS.nil _ _ _) ZcA)
  have hbo:=Zl0
  clear hck hsv E2 HNW HE1 hbase
  generalize mgA op5 (.slice none 0 0)=mz at*
  go_wp2_with(first|(refine wpList_build_eq rfl 62 _ rfl (L:=mz) (by simp[go_sem];exact hbo) ?_)|fail)
  refine(HPK.out).mono ?_
  rintro e w3 ⟨v3,rfl,O3,E3⟩
  have HFD:=zh (ZjJ g kb base ns (.slice Ak ns.length ck) none v3 w3 (HSV.out.ext E3) (RdS.ri O3.rdT))
  unfold WdO at HFD
  have HE3:=zh (HE2.out.trans E3)
  clear HPK hbo O3 E3 HE2 HSV
  go_wp2_with fail
  refine(HFD.out).mono ?_
  rintro e w4 ⟨ov,S4,rfl,O4,rfl,S4,V4⟩
  have HRD:=zh (ZqE (k:=91) (ch:=50) (se:=0) (co:=0) (ZaI [] op5) ov w4 O4 ZlZ (by simp[rM,ZaI]) (by simp[rM,ZaI,op5]) (by simp[rM,ZaI]) (by simp[rM,ZaI]))
  have HE4:=zh (V4.fresh HE3.out HB.out)
  have HS4:=zh S4
  clear HFD O4 V4 HE3 S4
  go_wp2_with fail
  refine(HRD.out).mono ?_
  rintro e w5 ⟨u5,rfl,HO,E5⟩
  obtain⟨bo,co,rfl,c0,c1,c2,c5⟩:=HO.sl
  have HE5:=zh (HE4.out.trans E5)
  have HS5:=zh (HS4.out.ext E5)
  clear HRD HO E5 HE4 HS4 c1 c5
  go_upto_region 5 with fail
  refine zg (fun w'=>Ext w5 w') (Ext.drew (Ext.refl _)) fun hHeld=>?_
  obtain⟨D,hD⟩:=zn (w5.drew)
  have ED:Ext w5 D:=by rw[hD];exact(Ext.refl _).drew
  rw[←hD] at hHeld⊢
  clear hD
  refine zr 0 ?_
  refine zr 1 ?_
  refine zr 2 ?_
  refine zr 3 ?_
  refine zr 4 ?_
  refine zr 5 ?_
  refine zr 6 ?_
  refine zr 7 ?_
  refine zr 8 ?_
  refine zr 9 ?_
  refine zr 10 ?_
  refine zv 11 c0 ?_
  refine zr 12 ?_
  refine zr 13 ?_
  refine zr 14 ?_
  refine zr 15 ?_
  refine zr 16 ?_
  refine zr 17 ?_
  refine zv 18 c2 ?_
  refine zr 19 ?_
  refine zr 20 ?_
  refine zr 21 ?_
  refine zr 22 ?_
  refine zd ?_
  go_wp2
  go_ret2
  exact .inr ⟨HCK.out,g,kb,base,Ak,ck,rfl,HB.out,HS5.out.ext ED,HE5.out.trans ED⟩
end Go.Proofs.YtmmhcllibpmfnaaGreatDoor
namespace Go.Kb
open Go.RowKit Go.ChangeShapes Go.WideShapes Go.ChangeAt Go.Deep
section
variable {H:Type} {enc:TypeId×Value→H} {P:Program} {W W':World}
def Zl1 (P:Program)(ts:List TypeId):Bool:=ts.all fun t=>P.readableRec t&&decide (t<P.types.size)
theorem ZcD (hl:laidOutB P=true):∀ {ts:List TypeId} {vs:List Value} {ds:List (DataW H)} {ps:List MemPlace},Zl1 P ts=true→
 DataW.TrodAll enc P W 0 (fun _=>true) true ts vs ds ps→Ext W W'→(∀x∈ps,x.block<W.heap.size)→DataW.TrodAll enc P W' 0 (fun b=>decide (b<W.heap.size)) true ts vs ds ps
 | [],vs,ds,ps,_,h,_,_=>by
   obtain⟨rfl,rfl,rfl⟩:=trodAll_nil h
   rfl
 |t::ts,vs,ds,ps,hr,h,hb,hlt=>by
  obtain⟨v,vs',d,ds',p,q,rfl,rfl,rfl,h1,h2⟩:=trodAll_cons h
  simp only[Zl1,List.all_cons,Bool.and_eq_true,decide_eq_true_eq] at hr
  exact⟨p,q,Below.trod hl hr.1.1 hr.1.2 h1 hb fun x hx=>hlt x (List.mem_append_left _ hx),ZcD hl hr.2 h2 hb fun x hx=>hlt x (List.mem_append_right _ hx),rfl⟩
theorem ZsY {n:Int}(h:(Lit.int .u8 n).wf=true):0≤n∧n≤255:=by
 simpa [Lit.wf,IntKind.min,IntKind.max,IntKind.signed,IntKind.bits] using h
end
section
variable {H:Type} {enc:TypeId×Value→H} {P:Program} {W:World} {D E:Type}
def ZcE (enc:TypeId×Value→H)(P:Program)(W:World)(t:TypeId)(e:Rep D)(R:D→Prop):Prop:=
 ∀ (fuel:Nat) (cs:List Value) (x:DataW H×List MemPlace),DataW.trod enc P W 0 (fun _=>true) true fuel t cs=some x→(x.1.weights P t).all (· ≤reachBytes)=true→∃d,e.rel (fun _=>True) W cs d∧R d
theorem ZgU {t:TypeId}{k:IntKind}(hu:P.underlying t=some (.int k)):ZcE enc P W t (Rep.int k) (fun n=>(Lit.int k n).wf=true):=by
 intro fuel cs x h _
 obtain⟨n,rfl,_,hw⟩:=DataW.trod_int hu h
 exact⟨n,rfl,hw⟩
theorem ZjO {t:TypeId}(hu:P.underlying t=some .bool):ZcE enc P W t Rep.bool (fun _=>True):=by
 intro fuel cs x h _
 obtain⟨b,rfl,_⟩:=DataW.trod_bool hu h
 exact⟨b,rfl,trivial⟩
theorem Zcd {t:TypeId}:∀ {l:List (DataW H)} {d:DataW H},d∈l→(DataW.weightsAll P t l).all (· ≤reachBytes)=true→(d.weights P t).all (· ≤reachBytes)=true
 |y::r,d,h,hw=>by
  simp only[DataW.weightsAll,List.all_append,Bool.and_eq_true] at hw
  rcases List.mem_cons.1 h with rfl|h
  ·exact hw.1
  ·exact Zcd h hw.2
theorem Zby {t te:TypeId}{e:Rep D}{R:D→Prop}(ht:P.underlying t=some (.slice te))(hc:P.cellsOf te=e.size)(ho:ZcE enc P W te e R):
 ZcE enc P W t (Rep.sl e) (fun l=>(∀x∈l,R x)∧l.length*P.bytesOf te≤140737488351232):=by
 intro fuel cs x h hw
 rcases open_slice ht h with⟨rfl,_⟩|⟨a,len,cap,m,n,Dd,Pl,rfl,_,hl,hm,hmm,rfl,hi⟩
 ·exact⟨[],⟨_,rfl,RdS.nil _ _ _⟩,by simp,by simp⟩
 ·simp only[if_true] at hmm
  subst hmm
  simp only[DataW.weights,ht,List.all_cons,List.all_append,Bool.and_eq_true,List.length_map,List.length_range,reachBytes] at hw
  have hz:a.spot=none∨m=0:=by
   rcases Nat.eq_zero_or_pos m with h0|h0
   ·exact .inr h0
   ·obtain⟨cs',hcs,_⟩:=hi 0 h0
    obtain⟨_,_,hat⟩:=World.cells?_some hcs
    have hp:=e.pos
    have h1:=hat 0 (by omega)
    left
    rcases hs:a.spot with _|s
    ·rfl
    ·exfalso
     have hlen:cs'.length=P.cellsOf te:=by assumption
     rw[Nat.zero_mul] at h1
     have:cs'[0]?=some (cs'[0]'(by omega)):=List.getElem?_eq_getElem (by omega)
     rw[this] at h1
     simp[Addr.add,World.cell?,hs] at h1
     split at h1<;>simp at h1
  have key:∀k,k≤len→∃us ds,ds.length=k∧RdE e (fun _=>True) W us ds∧(∀x∈ds,R x)∧∀j u,us[j]?=some u→W.cell? (a.add j)=some u:=by
   intro k
   induction k with
   |zero=>exact fun _=>⟨[],[],rfl,RdE.nil _ _ _,by simp,by simp⟩
   |succ k ih=>
    intro hk
    obtain⟨us,ds,hdl,he,hr,hcell⟩:=ih (by omega)
    obtain⟨cs',hcs,htr⟩:=hi k (by omega)
    have hwk:((Dd k).weights P te).all (· ≤reachBytes)=true:=Zcd (l:=(List.range len).map Dd) (List.mem_map.2 ⟨k,List.mem_range.2 (by omega),rfl⟩) hw.2.1
    obtain⟨d,hrel,hR⟩:=ho _ _ _ htr hwk
    obtain⟨_,_,hat⟩:=World.cells?_some hcs
    refine⟨us++cs',ds++ [d],by simp[hdl],he.append (RdE.single hrel),?_,fun j u hu=>?_⟩
    ·intro x hx
     rcases List.mem_append.1 hx with hx|hx
     ·exact hr x hx
     ·simp at hx;subst hx;exact hR
    ·have hul:us.length=k*e.size:=by rw[he.1,hdl]
     rcases Nat.lt_or_ge j us.length with hj|hj
     ·rw[List.getElem?_append_left hj] at hu
      exact hcell j u hu
     ·rw[List.getElem?_append_right hj] at hu
      have hcl:cs'.length=e.size:=e.len hrel
      have hjl:j - us.length<cs'.length:=(List.getElem?_eq_some_iff.1 hu).1
      have h1:=hat (j - us.length) (by omega)
      rw[hu,hc,Go.Deep.add_add] at h1
      have:k*e.size+(j - us.length)=j:=by omega
      rw[this] at h1
      exact h1
  obtain⟨us,ds,rfl,he,hr,hcell⟩:=key len (Nat.le_refl _)
  refine⟨ds,⟨_,rfl,⟨us,⟨he.1,some a,m,rfl,hl,hm,?_⟩,he⟩,fun _ _ _=>trivial⟩,hr,?_⟩
  ·rcases hz with hz|hz
   ·obtain⟨b,off,sp⟩:=a
    simp only at hz
    subst hz
    exact .inr ⟨b,off,rfl,fun j u hu=>by have:=hcell j u hu;rwa [Addr.add_lit] at this⟩
   ·exact .inl hz
  ·have h1:=of_decide_eq_true hw.1
   have h2:ds.length*P.bytesOf te≤(ds.length+(m - ds.length))*P.bytesOf te:=Nat.mul_le_mul_right _ (by omega)
   omega
theorem ZcE.slice {t te:TypeId}{e:Rep D}{R:List D→Prop}{v:Value}{d:DataW H}{p:List MemPlace}{r:Reach}{b0:Nat}(ho:ZcE enc P W t (Rep.sl e) R)(ht:P.underlying t=some (.slice te))
 (hok:Value.okWide P W r b0 t v) (h:DataW.Trod enc P W 0 (fun _=>true) true t v d p) (hw:(d.weights P t).all (· ≤reachBytes)=true):∃l,RdS e (fun _=>True) W v l∧R l:=by
 obtain⟨a,len,cap,rfl⟩:=okWide_slice ht hok
 obtain⟨fuel,hf⟩:=h
 obtain⟨l,⟨v',hv,hr⟩,hR⟩:=ho _ _ _ hf hw
 simp[Value.cells] at hv
 subst hv
 exact⟨l,hr,hR⟩
theorem ZcE.agg {t:TypeId}{fs:Array Field}{e:Rep D}{R:D→Prop}{v:Value}{d:DataW H}{p:List MemPlace}{r:Reach}{b0:Nat}(ho:ZcE enc P W t e R)(ht:P.underlying t=some (.struct fs))
 (hok:Value.okWide P W r b0 t v) (h:DataW.Trod enc P W 0 (fun _=>true) true t v d p) (hw:(d.weights P t).all (· ≤reachBytes)=true):∃cs l,v= .agg cs∧e.rel (fun _=>True) W cs.toList l∧R l:=by
 obtain⟨cs,rfl,_⟩:=okWide_struct ht hok
 obtain⟨fuel,hf⟩:=h
 obtain⟨l,hr,hR⟩:=ho _ _ _ hf hw
 exact⟨cs,l,rfl,hr,hR⟩
end
section
variable {H:Type} {enc:TypeId×Value→H} {P:Program} {W:World}
theorem Zce:∀ {ts:List TypeId} {ds:List (DataW H)} {j:Nat} {t:TypeId} {d:DataW H},(DataW.weightsEach P ts ds).all (· ≤reachBytes)=true→ts[j]?=some t→ds[j]?=some d→(d.weights P t).all (· ≤reachBytes)=true
 | [],_,j,_,_,_,ht,_=>by simp at ht
 |_::_,[],j,_,_,_,_,hd=>by simp at hd
 |a::ts,x::ds,0,t,d,hw,ht,hd=>by
  simp at ht hd
  subst ht hd
  simp only[DataW.weightsEach,List.all_append,Bool.and_eq_true] at hw
  exact hw.1
 |a::ts,x::ds,j+1,t,d,hw,ht,hd=>by
  simp only[DataW.weightsEach,List.all_append,Bool.and_eq_true] at hw
  exact Zce hw.2 (by simpa using ht) (by simpa using hd)
def Zaf (enc:TypeId×Value→H)(P:Program)(W:World)(cs:List Value)(t:TypeId)(o:Nat):Prop:=
 ∃ (fuel:Nat) (x:DataW H×List MemPlace),DataW.trod enc P W 0 (fun _=>true) true fuel t ((cs.drop o).take (P.cellsOf t))=some x∧(x.1.weights P t).all (· ≤reachBytes)=true
theorem Zaf.opens {cs:List Value}{t:TypeId}{o n:Nat}{D:Type}{e:Rep D}{R:D→Prop}(h:Zaf enc P W cs t o)(ho:ZcE enc P W t e R)(hc:P.cellsOf t=n):∃d,e.rel (fun _=>True) W ((cs.drop o).take n) d∧R d:=by
 obtain⟨fuel,x,h1,h2⟩:=h
 subst hc
 exact ho _ _ _ h1 h2
theorem Zbj {cs:List Value}{o:Nat}{v:Value}(h:(cs.drop o).take 1=[v]):cs[o]?=some v:=by
 have:=congrArg (fun l=>l[0]?) h
 simpa [List.getElem?_take,List.getElem?_drop] using this
theorem Zaf.int {cs:List Value}{t:TypeId}{o:Nat}{k:IntKind}(h:Zaf enc P W cs t o)(hu:P.underlying t=some (.int k))(hc:P.cellsOf t=1):∃n,cs[o]?=some (.int k n)∧(Lit.int k n).wf=true:=by
 obtain⟨n,h1,h2⟩:=h.opens (ZgU hu) hc
 exact⟨n,Zbj h1,h2⟩
theorem Zaf.bool {cs:List Value}{t:TypeId}{o:Nat}(h:Zaf enc P W cs t o)(hu:P.underlying t=some .bool)(hc:P.cellsOf t=1):∃b,cs[o]?=some (.bool b):=by
 obtain⟨b,h1,_⟩:=h.opens (ZjO hu) hc
 exact⟨b,Zbj h1⟩
theorem Zaf.slice {cs:List Value}{t:TypeId}{o:Nat}{D:Type}{e:Rep D}{R:List D→Prop}(h:Zaf enc P W cs t o)(ho:ZcE enc P W t (Rep.sl e) R)(hc:P.cellsOf t=1):∃v l,cs[o]?=some v∧RdS e (fun _=>True) W v l∧R l:=by
 obtain⟨l,⟨v,h1,h2⟩,h3⟩:=h.opens ho hc
 exact⟨v,l,Zbj h1,h2,h3⟩
end
end Go.Kb
namespace Go.Proofs.YtmmhcllibpmfnaaGreatDoor
open Go.RowKit Go.Kb Go.Kb.Frame
def RqR:Rep Rq where
 size:=11
 pos:=by decide
 rel:=fun A w cs r=>∃v,cs=(rqA r v).toList∧RdS Ub8 A w v r.mo
 len:=fun⟨v,h,_⟩=>by rw[h];rfl
 one:=fun⟨v,h,h2⟩ u hu=>by
  obtain⟨Ad,c,rfl,_⟩:=h2.shape
  rw[h] at hu
  simp at hu
  rcases hu with rfl|rfl|rfl|rfl|rfl|rfl|rfl|rfl|rfl|rfl|rfl<;>rfl
 keep:=fun⟨v,h,h2⟩ hk=>⟨v,h,h2.keep hk⟩
abbrev ZsZ:List TypeId:=[5,4,42,51]
theorem Zdy.far {g kb base base2:Nat}{ns:List ByteArray}{kv:Value}{c:Ch}{s:Sn}{ev:Value}{l:List Int}{w w':World}(h:Zdy g kb base ns (svQ kb base kv c s ev l) none w)(M:ZaR ZsZ base2 w w'):Zdy g kb base ns (svQ kb base kv c s ev l) none w':=by
 obtain⟨pv,fv,cv,lv,sv,bs,h⟩:=h
 exact⟨pv,fv,cv,lv,sv,bs,Nat.le_trans h.hb M.size,h.hbg,h.blk.modT M (by decide),h.em,h.pg.modT M (by decide),h.ch.modT M (by decide),h.ln.modT M (by decide),h.la.modT M (by decide),h.nd,h.bb,
  h.sd.mod M (fun k hk he=>by rw[h.sb] at hk;cases hk) (fun _ _ hk=>hk.elim),h.sb,h.kr.modT M (by decide) (by decide),h.ks⟩
structure RpAt (g kb base b0 n7:Nat)(ns:List ByteArray)(kv:Value)(L:List Rq)(sv tv:Value)(w:World):Prop where
 sv:OwnS Ub8 5 b0 (fun _=>False) w sv (pks (L.map msgR))
 tv:OwnS Rep.bool 4 b0 (fun _=>False) w tv (ZiC ns sn0 L)
 ses:∃ev,Blk w n7 42 (sesV (stQ ns sn0 L) ev)∧OwnS Zbc 128 b0 (fun _=>False) w ev (stQ ns sn0 L).env
 srv:Zdy g kb base ns (svQ kb base kv ch5 sn0 (.slice none 0 0) []) none w
theorem RpAt.ext {g kb base b0 n7:Nat}{ns:List ByteArray}{kv:Value}{L:List Rq}{sv tv:Value}{w w':World}(h:RpAt g kb base b0 n7 ns kv L sv tv w)(E:Ext w w'):RpAt g kb base b0 n7 ns kv L sv tv w':=by
 obtain⟨h1,h2,⟨ev,h3,h4⟩,h5⟩:=h
 exact⟨h1.ext E,h2.ext E,⟨ev,h3.ext E,h4.ext E⟩,h5.ext E⟩
theorem ZqG:(Tryz.prog.info? 4).map (fun i=>(i.zero,i.size,i.bytes))=some (some (.bool false),Rep.bool.size,1):=by kernel_rfl
theorem Zog (L:List Rq)(r:Rq):pks ((L++ [r]).map msgR)=pks (L.map msgR)++pkM (msgR r):=by rw[List.map_append,ZeB,List.map_singleton,ZhO]
theorem ZiE:∀ (L:List Rq),(∀r∈L,RqG r)→(pks (L.map msgR)).length≤40000*L.length
 | [],_=>by simp[pks]
 |r::L,h=>by
  have h1:(r::L).map msgR=[msgR r]++L.map msgR:=rfl
  have h2:=Zcg (msgR r)
  have h3:=Za2 (ZbP (h r (by simp))).good
  have h4:=ZiE L (fun x hx=>h x (by simp[hx]))
  rw[h1,ZeB,List.length_append,ZhO,List.length_cons]
  omega
end Go.Proofs.YtmmhcllibpmfnaaGreatDoor
