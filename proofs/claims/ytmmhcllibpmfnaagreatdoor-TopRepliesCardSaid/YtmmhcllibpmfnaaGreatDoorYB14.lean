/- Parts QN28 QF28 QG28 QH28 QK28 QM28 KV28 QO28 UL28 UM28 QP28 QR28 QA28 QB28 QC28 VA28. No condition. -/
import Derived.Test.YtmmhcllibpmfnaaGreatDoorYB07
import Derived.Test.YtmmhcllibpmfnaaGreatDoorYB08
import Derived.Test.YtmmhcllibpmfnaaGreatDoorYB12
import Derived.Test.YtmmhcllibpmfnaaGreatDoorYB13
import Derived.Lib.IndexLaws
set_option maxRecDepth 100000
set_option maxHeartbeats 8000000
namespace Go.Proofs.YtmmhcllibpmfnaaGreatDoor
open Go.RowKit Go.Kb Go.Kb.Frame
theorem ZgP (f:Fd)(r:List Int)(v:Value)(w:World)(hc:Zeb f)(h2:f.k≠2)(hr:f.k=6→r=[])(h:RI .u8 w v (encF f.k f.n f.t++r))(hb:Bs (encF f.k f.n f.t++r)):
 Calls Tryz.prog 133 #[.int .i64 f.k,v] w (Zcz f.k f.n f.t w):=by
 obtain⟨k,n,t⟩:=f
 dsimp only at*
 rcases hc with⟨rfl,hn,ht⟩|⟨rfl,hn,ht⟩|⟨rfl,hn,ht⟩|⟨rfl,hn,ht⟩|⟨rfl,hn,ht⟩
 ·dsimp only at hn ht
  subst ht
  exact ZrX v n r w (by simpa [encF] using h) hn
 ·exact absurd rfl h2
 ·dsimp only at hn ht
  subst ht
  have e3:encF 3 n []=Fr.four n:=by simp[encF]
  rw[e3] at h hb
  exact ZrY v n r w h hb
 ·dsimp only at hn ht
  subst hn
  have e4:encF 4 0 t=Fr.four t.length++t:=by simp[encF]
  rw[e4] at h hb
  exact ZrZ v t r w h ht hb
 ·dsimp only at hn ht
  subst hn
  obtain rfl:=hr rfl
  have e6:encF 6 0 t=t:=by simp[encF]
  rw[e6,List.append_nil] at h
  exact Zr0 v t w h ht
theorem ZgQ (vk v:Value)(fs:List Fd)(w:World)(hk:RI .i64 w vk (fs.map (·.k)))(hv:RI .u8 w v (encL fs))(hN:fs.length≤8)(hr:Zdw (fs.map (·.k)))(hf:∀f∈fs,Zeb f∧f.k≠2)(hb:Bs (encL fs)):
 Calls Tryz.prog 63 #[vk,v] w (ReP fs w):=by
 have hi:=zi Tryz.prog 86 4
 obtain⟨Ak,ck,rfl,hk1,hk2⟩:=hk.shape
 have HV:=zh hv
 have HR:=zh hr
 have HF:=zh hf
 have HBS:=zh hb
 have HKI:=zh (Ze7 _ _ w hk hr)
 obtain⟨N,hNN⟩:=zm (fs.length)
 have HN:=zh hNN
 have hNk:(fs.map (·.k)).length=N:=by simpa using hNN
 have HK:=zh (show RdN w 1 (.slice Ak N ck) (fs.map (·.k)).length ((fs.map (·.k)).map (Value.int .i64)) by rw[←hNk];exact hk)
 rw[hNk] at hk1 HKI⊢
 rw[hNN] at hN
 clear hk hv hr hf hb hNN hNk
 go_enter Tryz.func63,Tryz.ntmps63
 go_wp2_with fail
 refine(HKI.out).mono ?_
 rintro e w2 ⟨rfl,E2⟩
 have E02:=zh E2
 go_wp2
 go_loopw [1,6,17] (fun s u i wr=>∃ (m:Nat),m≤N∧i= .int .i64 m∧Hid (RdS Ub8 (fun k=>k<w.heap.size) wr s (encL (fs.drop m)))∧Hid (OwnS FdR 86 w.heap.size (fun k=>w.heap.size≤k) wr u (fs.take m))∧Hid (Ext w wr)) (fun _ _ i _=>N - (intOf i).toNat)
 case atStart=>exact⟨0,Nat.zero_le _,rfl,zh (by rw[List.drop_zero];exact((show RdS Ub8 (fun _=>True) w v (encL fs) from RI.s HV.out).lt.mono (fun k _ hk=>hk.2)).ext E2),zh (by rw[List.take_zero];exact OwnS.nil _ _ _ _ _),E02⟩
 case round=>
  clear E02
  obtain⟨m,hm,rfl,HB,HO,hE⟩:=hrel
  by_cases hmn:m<N
  ·obtain⟨b,off,x,rfl,hx,hd⟩:=RdN.icell (l:=fs.map (·.k)) (RdN.ext HK.out hE.out) hmn
   obtain⟨f,hfm,hfk⟩:∃f,fs[m]?=some f∧x=f.k:=by
    have h9:=hd.out
    rw[List.getElem?_map] at h9
    cases h8:fs[m]? with
    |none=>rw[h8] at h9;cases h9
    |some f=>rw[h8] at h9;exact⟨f,rfl,by simpa using h9.symm⟩
   subst hfk
   obtain⟨hcan,hne2⟩:=HF.out f (List.mem_of_getElem? hfm)
   have hdr:encL (fs.drop m)=encF f.k f.n f.t++encL (fs.drop (m+1)):=Zec hfm
   have hbs:Bs (encF f.k f.n f.t++encL (fs.drop (m+1))):=by
    rw[←hdr]
    intro y hy
    refine HBS.out y ?_
    unfold encL at hy⊢
    obtain⟨l,hl,hyl⟩:=List.mem_flatten.1 hy
    obtain⟨f2,hf2,rfl⟩:=List.mem_map.1 hl
    exact List.mem_flatten.2 ⟨_,List.mem_map.2 ⟨f2,List.mem_of_mem_drop hf2,rfl⟩,hyl⟩
   rw[hdr] at HB
   have HTK:=zh (ZgP f (encL (fs.drop (m+1))) _ wr hcan hne2 (fun h6=>by
    have h9:=(HR.out m f.k hd.out).2 h6
    rw[List.length_map] at h9
    rw[List.drop_of_length_le (by omega)]
    rfl) (RdS.ri HB.out) hbs)
   unfold Zcz at HTK
   obtain⟨Ab,cb,rfl,hb1,hb2⟩:=HB.out.shape
   obtain⟨Au,cu,rfl,-,-⟩:=HO.out.shape
   have htk:(fs.take m).length=m:=by rw[List.length_take,HN.out];omega
   rw[htk] at HO⊢
   obtain⟨E,hEl⟩:=zm ((encF f.k f.n f.t).length)
   have HRF:=zh (show RdS Ub8 (fun k=>k<w.heap.size) wr (.slice (if cb=E then Ab else Option.map (fun x=>x.add E) Ab) ((encF f.k f.n f.t++encL (fs.drop (m+1))).length - E) (cb - E)) (encL (fs.drop (m+1))) from by
    have h9:=RdS.from_ HB.out (k:=E) (by rw[List.length_append];omega)
    rw[show(encF f.k f.n f.t++encL (fs.drop (m+1))).drop E=encL (fs.drop (m+1)) by rw[←hEl,List.drop_left]] at h9
    rw[show Ub8.size=1 from rfl,Nat.mul_one] at h9
    exact h9)
   obtain⟨L,hL⟩:=zm ((encF f.k f.n f.t++encL (fs.drop (m+1))).length)
   have hEL:E≤L:=by rw[←hL,List.length_append];omega
   rw[hL] at hb1 HTK HRF⊢
   rw[hEl] at HTK
   have HFM:=zh hfm
   clear HB hfm hd hcan hne2 hdr hbs hL hEl
   go_wp2_with fail
   refine(HTK.out).mono ?_
   rintro e w3 ⟨vt,rfl,hvt,E3⟩
   obtain⟨At,ct,rfl,-,-⟩:=hvt.shape
   obtain⟨vt,hvv⟩:=zn (Value.slice At f.t.length ct)
   go_upto_region 10 with fail
   obtain⟨W9,hW9⟩:=zn (w3.alloc (.cells #[.int .i64 f.k,.int .u32 f.n,.slice At f.t.length ct,.slice none 0 0] 86))
   have E9:Ext w3 W9:=by rw[hW9];exact(Ext.refl _).alloc _
   have P9:=zh (show Blk W9 w3.heap.size 86 #[.int .i64 f.k,.int .u32 f.n,.slice At f.t.length ct,.slice none 0 0] by rw[hW9];exact Blk.new w3 _ _)
   rw[←hW9]
   have HO9:=zh (HO.out.ext (E3.trans E9))
   have hoR:=zh HO.out.row
   have hE9:=zh ((hE.out.trans E3).trans E9)
   have HT9:=zh (hvt.ext E9)
   have HR9:=zh (HRF.out.ext (E3.trans E9))
   have hz:=hE.out.size
   have hz9:=hE9.out.size
   rw[←hvv] at P9 HT9
   clear hW9 HO hE hvt HRF E3 E9 HTK
   rw[←hvv]
   clear hvv
   have hEi:(E:Int)≤(L:Int):=by omega
   go_wp2_with(first
    |(refine wpList_load_row rfl 86 _ rfl _ rfl 86 _ _ _ P9.out Tryz.underlying86 rfl hi ?_)
    |(at_builtin;refine wpList_app (e:=FdR) (base:=w.heap.size) (B:=fun k=>w.heap.size≤k) (A:=fun k=>wr.heap.size≤k) rfl (.tmp 31) (.tmp 33) rfl Tryz.underlying87 ZcN rfl (HO9.out.alloc _) rfl (RdY.singleB (e:=FdR) (cs:=[.int .i64 f.k,.int .u32 f.n,vt,.slice none 0 0]) (d:=f) ⟨vt,rfl,HT9.out.alloc _⟩ (Blk.new _ _ _)) rfl (fun k _ hk=>⟨by omega,fun he=>by have:=(hoR.out k he).2;omega⟩) (N:=m+1) (by rw[htk];rfl) (by unfold maxLen;omega) (by omega) (by simp;omega) ?_;intro A9 c9 w9 o9 M9 _))
   have M99:=(Mod.of_ext (S:=fun k=>(Value.slice Au m cu).ownBlock=some k) ((Ext.refl W9).alloc (.cells #[.int .i64 f.k,.int .u32 f.n,vt,.slice none 0 0] 86))).trans M9
   refine⟨⟨m+1,by omega,by go_num,zh (HR9.out.mod M99 (fun k _ hk he=>by have:=(hoR.out k he).1;omega)),zh ?_,zh (Mod.toExt hE9.out M99 (fun k hk he=>by have:=(hoR.out k he).1;omega))⟩,by simp[intOf];omega⟩
   rw[List.take_add_one,HFM.out]
   exact o9
  ·obtain rfl:m=N:=by omega
   rw[List.drop_of_length_le (by rw[HN.out];exact Nat.le_refl _)] at HB
   rw[List.take_of_length_le (by rw[HN.out];exact Nat.le_refl _)] at HO
   obtain⟨Ab,cb,rfl,-,-⟩:=HB.out.shape
   have hen:encL ([]:List Fd)=[]:=rfl
   rw[hen]
   clear HB
   go_wp2
   go_ret2
   exact⟨_,rfl,HO.out,hE.out⟩
end Go.Proofs.YtmmhcllibpmfnaaGreatDoor
namespace Go.Proofs.YtmmhcllibpmfnaaGreatDoor
open Go.RowKit Go.Kb
def KfR:Rep Int where
 size:=4
 pos:=by decide
 rel:=fun _ _ cs d=>∃a b c:Value,cs=[.int .i64 d,a,b,c]∧a.oneCell'=true∧b.oneCell'=true∧c.oneCell'=true
 len:=fun⟨_,_,_,h,_⟩=>by rw[h];rfl
 one:=fun⟨a,b,c,h,h1,h2,h3⟩ u hu=>by
  rw[h] at hu
  simp at hu
  rcases hu with rfl|rfl|rfl|rfl
  ·rfl
  ·exact h1
  ·exact h2
  ·exact h3
 keep:=fun h _=>h
abbrev fdA (k:Int)(n:Int)(v:Value):Array Value:=#[.int .i64 k,.int .u32 n,v,.slice none 0 0]
theorem kfE {A:Nat→Prop}{w:World}(k n:Int)(v:Value)(h:v.oneCell'=true):RdE KfR A w (fdA k n v).toList [k]:=RdE.single (e:=KfR) ⟨_,_,_,rfl,rfl,h,rfl⟩
theorem Zbp (n:Int)(w:World):Calls Tryz.prog 138 #[.int .u32 n] w fun e w'=>e= .returned (.agg (fdA 3 n (.slice none 0 0)))∧Ext w w':=by
 have hiF:=zi Tryz.prog 86 4
 go_enter Tryz.func138,Tryz.ntmps138
 go_wp2_with(refine wpList_store_A rfl 86 _ _ rfl w.heap.size _ rfl rfl 86 _ (Blk.at_ _ _ rfl) hiF rfl (by simp[Value.oneCell']) ?_;intro w2 H2 E2;have E2:Ext w w2:=E2 w.heap.size w zX (Nat.le_refl _))
 refine bodyPost_ret_by (results_cell_row Tryz.results138 _ _ w.heap.size 86 _ _ _ rfl H2 Tryz.underlying86 rfl hiF) rfl ?_
 exact⟨rfl,E2⟩
theorem Zqq (w:World):Calls Tryz.prog 142 #[.slice none 0 0] w fun e w'=>e= .returned (.agg (fdA 6 0 (.slice none 0 0)))∧Ext w w':=by
 have hiF:=zi Tryz.prog 86 4
 go_enter Tryz.func142,Tryz.ntmps142
 go_wp2_with(refine wpList_store_A rfl 86 _ _ rfl w.heap.size _ rfl rfl 86 _ (Blk.at_ _ _ rfl) hiF rfl (by simp[Value.oneCell']) ?_;intro w2 H2 E2;have E2:Ext w w2:=E2 w.heap.size w zX (Nat.le_refl _))
 refine bodyPost_ret_by (results_cell_row Tryz.results142 _ _ w.heap.size 86 _ _ _ rfl H2 Tryz.underlying86 rfl hiF) rfl ?_
 exact⟨rfl,E2⟩
def Zqr (ks:List Int)(w:World)(e:Ending)(w':World):Prop:=∃Ad c,e= .returned (.tuple #[.slice Ad ks.length c,.bool true])∧RdY KfR (fun _=>True) w' (.slice Ad ks.length c) ks∧Ext w w'
theorem ZjI (w:World):Calls Tryz.prog 69 #[.agg (mgA (mg0 91) (.slice none 0 0))] w (Zqr [3,3,3,3,6] w):=by
 obtain⟨W1,hW1⟩:=zn (w.alloc (.cells (mgA (mg0 91) (.slice none 0 0)) 62))
 have E1:Ext w W1:=by rw[hW1];exact(Ext.refl _).alloc _
 have B1:=zh (show Blk W1 w.heap.size 62 (mgA (mg0 91) (.slice none 0 0)) by rw[hW1];exact Blk.new _ _ _)
 have HW1:=zh hW1
 have q0:=B1.out.cell 0
 have q1:=B1.out.cell 1
 have q2:=B1.out.cell 2
 have q3:=B1.out.cell 3
 have q4:=B1.out.cell 4
 have q9:=B1.out.cell 9
 simp only[mg0,List.getElem?_toArray,List.getElem?_cons_zero,List.getElem?_cons_succ] at q0 q1 q2 q3 q4 q9
 clear hW1
 go_enter Tryz.func69,Tryz.ntmps69
 go_upto_region 1 with fail
 rw[←HW1.out]
 clear HW1
 go_upto_region 13 with fail
 refine zg (fun w'=>Ext W1 w') zX fun hHeld=>?_
 obtain⟨D,hD⟩:=zn (W1.drew)
 have ED:Ext W1 D:=by rw[hD];exact(Ext.refl _).drew
 rw[←hD] at hHeld⊢
 clear hD
 refine zr 0 ?_
 refine zv 1 q1 ?_
 refine zr 3 ?_
 refine zv 4 q2 ?_
 refine zr 6 ?_
 refine zv 7 q3 ?_
 refine zr 9 ?_
 refine zv 10 q4 ?_
 refine zr 12 ?_
 refine zv 13 q9 ?_
 (refine zc 2 (Zbp _ _) ?_;rintro e w2 ⟨rfl,E2⟩ K hK;refine zo hK zX fun hHeld=>?_;clear hK K)
 (refine zc 5 (Zbp _ _) ?_;rintro e w3 ⟨rfl,E3⟩ K hK;refine zo hK zX fun hHeld=>?_;clear hK K)
 (refine zc 8 (Zbp _ _) ?_;rintro e w4 ⟨rfl,E4⟩ K hK;refine zo hK zX fun hHeld=>?_;clear hK K)
 (refine zc 11 (Zbp _ _) ?_;rintro e w5 ⟨rfl,E5⟩ K hK;refine zo hK zX fun hHeld=>?_;clear hK K)
 (refine zc 14 (Zqq _) ?_;rintro e w6 ⟨rfl,E6⟩ K hK;refine zo hK zX fun hHeld=>?_;clear hK K)
 (refine ze 15 fun hHeld=>?_)
 refine zr 16 ?_
 refine zr 17 ?_
 refine zd ?_
 go_wp2
 go_ret2
 refine⟨_,_,rfl,RdY.mono (B:=fun _=>True) (RdS.y (RdS.litB (e:=KfR) (A:=fun _=>True) (cs:=(fdA 3 0 (.slice none 0 0)).toList++ (fdA 3 0 (.slice none 0 0)).toList++ (fdA 3 0 (.slice none 0 0)).toList++ (fdA 3 0 (.slice none 0 0)).toList++ (fdA 6 0 (.slice none 0 0)).toList) (((((kfE 3 0 _ rfl).append (kfE 3 0 _ rfl)).append (kfE 3 0 _ rfl)).append (kfE 3 0 _ rfl)).append (kfE 6 0 _ rfl)) (Blk.new _ _ _) rfl (by decide))) (fun _ _ _=>trivial),zX⟩
theorem rfields_99 (w:World):Calls Tryz.prog 69 #[.agg (mgA (mg0 99) (.slice none 0 0))] w (Zqr [3] w):=by
 obtain⟨W1,hW1⟩:=zn (w.alloc (.cells (mgA (mg0 99) (.slice none 0 0)) 62))
 have E1:Ext w W1:=by rw[hW1];exact(Ext.refl _).alloc _
 have B1:=zh (show Blk W1 w.heap.size 62 (mgA (mg0 99) (.slice none 0 0)) by rw[hW1];exact Blk.new _ _ _)
 have HW1:=zh hW1
 have q0:=B1.out.cell 0
 have q1:=B1.out.cell 1
 simp only[mg0,List.getElem?_toArray,List.getElem?_cons_zero,List.getElem?_cons_succ] at q0 q1
 clear hW1
 go_enter Tryz.func69,Tryz.ntmps69
 go_upto_region 1 with fail
 rw[←HW1.out]
 clear HW1
 go_wp2_with fail
 refine(Zbp _ _).mono ?_
 rintro e w2 ⟨rfl,E2⟩
 go_wp2
 go_ret2
 refine⟨_,_,rfl,RdY.mono (B:=fun _=>True) (RdS.y (RdS.litB (e:=KfR) (A:=fun _=>True) (cs:=(fdA 3 0 (.slice none 0 0)).toList) (kfE 3 0 _ rfl) (Blk.new _ _ _) rfl (by decide))) (fun _ _ _=>trivial),zX⟩
theorem rfields_100 (w:World):Calls Tryz.prog 69 #[.agg (mgA (mg0 100) (.slice none 0 0))] w (Zqr [3] w):=by
 obtain⟨W1,hW1⟩:=zn (w.alloc (.cells (mgA (mg0 100) (.slice none 0 0)) 62))
 have E1:Ext w W1:=by rw[hW1];exact(Ext.refl _).alloc _
 have B1:=zh (show Blk W1 w.heap.size 62 (mgA (mg0 100) (.slice none 0 0)) by rw[hW1];exact Blk.new _ _ _)
 have HW1:=zh hW1
 have q0:=B1.out.cell 0
 have q1:=B1.out.cell 1
 simp only[mg0,List.getElem?_toArray,List.getElem?_cons_zero,List.getElem?_cons_succ] at q0 q1
 clear hW1
 go_enter Tryz.func69,Tryz.ntmps69
 go_upto_region 1 with fail
 rw[←HW1.out]
 clear HW1
 go_wp2_with fail
 refine(Zbp _ _).mono ?_
 rintro e w2 ⟨rfl,E2⟩
 go_wp2
 go_ret2
 refine⟨_,_,rfl,RdY.mono (B:=fun _=>True) (RdS.y (RdS.litB (e:=KfR) (A:=fun _=>True) (cs:=(fdA 3 0 (.slice none 0 0)).toList) (kfE 3 0 _ rfl) (Blk.new _ _ _) rfl (by decide))) (fun _ _ _=>trivial),zX⟩
end Go.Proofs.YtmmhcllibpmfnaaGreatDoor
namespace Go.Proofs.YtmmhcllibpmfnaaGreatDoor
open Go.RowKit Go.Kb Go.Kb.Frame
def Zn0 (m:Mg)(w:World)(e:Ending)(w':World):Prop:=∃v,e= .returned (.tuple #[.agg (mgA m v),.int .i64 0])∧RdS Ub8 (fun j=>w.heap.size≤j) w' v m.da∧Ext w w'
theorem ZlE (ch se wi pk co:Int)(v:Value)(w:World):Calls Tryz.prog 70 #[.agg (mgA ⟨91,ch,se,wi,pk,co,⟨#[]⟩,⟨#[]⟩,false,[]⟩ v)] w fun e w'=>e= .returned (.bool true)∧Ext w w':=by
 obtain⟨W1,hW1⟩:=zn (w.alloc (.cells (mgA ⟨91,ch,se,wi,pk,co,⟨#[]⟩,⟨#[]⟩,false,[]⟩ v) 62))
 have E1:Ext w W1:=by rw[hW1];exact(Ext.refl _).alloc _
 have B1:=zh (show Blk W1 w.heap.size 62 (mgA ⟨91,ch,se,wi,pk,co,⟨#[]⟩,⟨#[]⟩,false,[]⟩ v) by rw[hW1];exact Blk.new _ _ _)
 have HW1:=zh hW1
 have q0:=B1.out.cell 0
 have q7:=B1.out.cell 7
 simp only[zG] at q0 q7
 clear hW1
 go_enter Tryz.func70,Tryz.ntmps70
 go_upto_region 1 with fail
 rw[←HW1.out]
 clear HW1
 go_wp2
 go_ret
 exact⟨rfl,E1⟩
theorem rwords_99 (ch se wi pk co:Int)(v:Value)(w:World):Calls Tryz.prog 70 #[.agg (mgA ⟨99,ch,se,wi,pk,co,⟨#[]⟩,⟨#[]⟩,false,[]⟩ v)] w fun e w'=>e= .returned (.bool true)∧Ext w w':=by
 obtain⟨W1,hW1⟩:=zn (w.alloc (.cells (mgA ⟨99,ch,se,wi,pk,co,⟨#[]⟩,⟨#[]⟩,false,[]⟩ v) 62))
 have E1:Ext w W1:=by rw[hW1];exact(Ext.refl _).alloc _
 have B1:=zh (show Blk W1 w.heap.size 62 (mgA ⟨99,ch,se,wi,pk,co,⟨#[]⟩,⟨#[]⟩,false,[]⟩ v) by rw[hW1];exact Blk.new _ _ _)
 have HW1:=zh hW1
 have q0:=B1.out.cell 0
 have q7:=B1.out.cell 7
 simp only[zG] at q0 q7
 clear hW1
 go_enter Tryz.func70,Tryz.ntmps70
 go_upto_region 1 with fail
 rw[←HW1.out]
 clear HW1
 go_wp2
 go_ret
 exact⟨rfl,E1⟩
theorem rwords_100 (ch se wi pk co:Int)(v:Value)(w:World):Calls Tryz.prog 70 #[.agg (mgA ⟨100,ch,se,wi,pk,co,⟨#[]⟩,⟨#[]⟩,false,[]⟩ v)] w fun e w'=>e= .returned (.bool true)∧Ext w w':=by
 obtain⟨W1,hW1⟩:=zn (w.alloc (.cells (mgA ⟨100,ch,se,wi,pk,co,⟨#[]⟩,⟨#[]⟩,false,[]⟩ v) 62))
 have E1:Ext w W1:=by rw[hW1];exact(Ext.refl _).alloc _
 have B1:=zh (show Blk W1 w.heap.size 62 (mgA ⟨100,ch,se,wi,pk,co,⟨#[]⟩,⟨#[]⟩,false,[]⟩ v) by rw[hW1];exact Blk.new _ _ _)
 have HW1:=zh hW1
 have q0:=B1.out.cell 0
 have q7:=B1.out.cell 7
 simp only[zG] at q0 q7
 clear hW1
 go_enter Tryz.func70,Tryz.ntmps70
 go_upto_region 1 with fail
 rw[←HW1.out]
 clear HW1
 go_wp2
 go_ret
 exact⟨rfl,E1⟩
theorem Zqs (m:Mg)(vb:Value)(w:World)(hm:MgS m)(hk:m.k=91)(hg:GoodM m)(h:RI .u8 w vb (encM m)):Calls Tryz.prog 39 #[vb] w (Zn0 ⟨91,m.ch,m.se,m.wi,m.pk,0,⟨#[]⟩,⟨#[]⟩,false,m.da⟩ w):=by
 have hiM:=zi Tryz.prog 62 10
 have hiF:=zi Tryz.prog 86 4
 have hiFL:∀a b c d:Value,(Tryz.prog.info? 86).map (·.size)=some [a,b,c,d].length:=fun _ _ _ _=>hiF
 have hbs:=Zg5 hg
 obtain⟨fs,hfsd⟩:∃fs:List Fd,fs=[⟨1,91,[]⟩,⟨3,m.ch,[]⟩,⟨3,m.se,[]⟩,⟨3,m.wi,[]⟩,⟨3,m.pk,[]⟩,⟨6,0,m.da⟩]:=⟨_,rfl⟩
 have hfs:encM m=encL fs:=by
  have hrw:rowL m.k=some [paChan,paSender,paWindow,paPacket,paRest]:=by simp[rowL,hk]
  unfold encM
  rw[hrw,hfsd]
  simp[flds,vOf,paChan,paSender,paWindow,paPacket,paRest,hk]
 rw[hfs] at h hbs
 have hca:∀f∈fs,Zeb f∧f.k≠2:=by
  rw[hfsd]
  intro f hf
  simp only[List.mem_cons,List.not_mem_nil,or_false] at hf
  rcases hf with rfl|rfl|rfl|rfl|rfl|rfl
  ·exact⟨.inl ⟨rfl,by decide,rfl⟩,by decide⟩
  ·exact⟨.inr (.inr (.inl ⟨rfl,hm.ch,rfl⟩)),by show(3:Int)≠2;decide⟩
  ·exact⟨.inr (.inr (.inl ⟨rfl,hm.se,rfl⟩)),by show(3:Int)≠2;decide⟩
  ·exact⟨.inr (.inr (.inl ⟨rfl,hm.wi,rfl⟩)),by show(3:Int)≠2;decide⟩
  ·exact⟨.inr (.inr (.inl ⟨rfl,hm.pk,rfl⟩)),by show(3:Int)≠2;decide⟩
  ·exact⟨.inr (.inr (.inr (.inr ⟨rfl,rfl,by show m.da.length≤_;have:=hm.da;omega⟩))),by show(6:Int)≠2;decide⟩
 have hks:fs.map (·.k)=[1,3,3,3,3,6]:=by rw[hfsd];rfl
 have hrk:Zdw (fs.map (·.k)):=by
  rw[hks]
  intro i x hi
  rcases i with _|_|_|_|_|_|i
  all_goals simp at hi
  all_goals (subst hi;decide)
 have hN:fs.length=6:=by rw[hfsd];rfl
 have hhd:∃r,encL fs=91::r:=by rw[hfsd];exact⟨_,rfl⟩
 have HFSD:=zh hfsd
 have HHD:=zh hm
 clear hfsd hfs hm hk hg
 obtain⟨A,c,rfl,hc1,hc2⟩:=h.shape
 obtain⟨L,hL⟩:=zm ((encL fs).length)
 obtain⟨r,hr⟩:=hhd
 have hL0:0<L:=by rw[←hL,hr];simp
 have H:=zh (show RdN w 1 (.slice A L c) (encL fs).length ((encL fs).map (Value.int .u8)) by rw[←hL];exact h)
 rw[hL] at hc1⊢
 obtain⟨b,off,x,rfl,kx,hx⟩:=RdN.icell (l:=encL fs) (k:=.u8) H.out hL0
 rw[Nat.add_zero] at kx
 obtain rfl:x=91:=by
  have h9:=hx.out
  rw[hr] at h9
  simpa using h9.symm
 have HBS:=zh hbs
 have HCA:=zh hca
 have HRK:=zh hrk
 have HKS:=zh hks
 have HFN:=zh hN
 have hLb:((L:Int)==0)=false:=by simp;omega
 obtain⟨W1,hW1⟩:=zn ((w.alloc (.cells #[.int .i64 0,.int .u32 0,.int .u32 0,.int .u32 0,.int .u32 0,.int .u32 0,.string ⟨#[]⟩,.string ⟨#[]⟩,.bool false,.slice none 0 0] 62)).alloc (.cells #[.int .i64 91,.int .u32 0,.int .u32 0,.int .u32 0,.int .u32 0,.int .u32 0,.string ⟨#[]⟩,.string ⟨#[]⟩,.bool false,.slice none 0 0] 62))
 have E1:Ext w W1:=by rw[hW1];exact((Ext.refl _).alloc _).alloc _
 have B2:=zh (show Blk W1 w.heap.size 62 (mgA (mg0 0) (.slice none 0 0)) by rw[hW1];exact(Blk.new w _ _).alloc _)
 have B4:=zh (show Blk W1 (w.heap.size+1) 62 (mgA (mg0 91) (.slice none 0 0)) by rw[hW1];exact Blk.at_ _ _ (by simp))
 have HW1:=zh hW1
 have kx1:=Zaa ((Ext.refl w).alloc (.cells #[.int .i64 0,.int .u32 0,.int .u32 0,.int .u32 0,.int .u32 0,.int .u32 0,.string ⟨#[]⟩,.string ⟨#[]⟩,.bool false,.slice none 0 0] 62)) kx
 clear h hbs hca hrk hks hN hL hr hx kx hW1
 go_enter Tryz.func39,Tryz.ntmps39
 go_upto_region 4 with fail
 rw[←HW1.out]
 clear HW1 kx1
 obtain⟨n2,hn2⟩:=zm (w.heap.size)
 have HN2:=zh hn2
 rw[hn2] at B2 B4⊢
 clear hn2
 go_wp2_with(first|(refine wpList_load_row rfl 62 _ rfl _ rfl 62 _ _ _ B4.out Tryz.underlying62 rfl hiM ?_)|fail)
 refine(ZjI _).mono ?_
 rintro e w2 ⟨Af,cf,rfl,hF,E2⟩
 have HF:=zh hF
 have E02:=zh (E1.trans E2)
 have B2:=zh (B2.out.ext E2)
 have B4:=zh (B4.out.ext E2)
 clear hF E1 E2
 simp only[List.length_cons,List.length_nil,Nat.reduceAdd] at HF⊢
 go_upto_region 8 with fail
 have HO0:=zh (show OwnS Ib 3 w2.heap.size (fun _=>False) (w2.alloc (.cells #[.int .i64 1] 3)) (.slice (some ⟨w2.heap.size,0,none⟩) 1 1) (([1,3,3,3,3,6]:List Int).take 1) from by
  refine OwnS.litB (A:=fun _=>False) (cs:=[.int .i64 1]) ?_ (Blk.new _ _ _) (fun k _ h=>h.elim) (Nat.le_refl _) rfl (by omega)
  exact RdE.single (e:=Ib) (d:=1) rfl)
 have HE0:=zh ((Ext.refl w2).alloc (.cells #[.int .i64 1] 3))
 go_wp2
 go_loopw [7,32] (fun u i wr=>∃j:Nat,j≤5∧i= .int .i64 j∧Hid (OwnS Ib 3 w2.heap.size (fun _=>False) wr u (([1,3,3,3,3,6]:List Int).take (j+1)))∧Hid (Ext w2 wr)) (fun _ i _=>5 - (intOf i).toNat)
 case atStart=>exact⟨0,Nat.zero_le _,rfl,HO0,HE0⟩
 case round=>
  clear HO0 HE0
  obtain⟨j,hj,rfl,HO,hE⟩:=hrel
  by_cases hjk:j<5
  ·obtain⟨b2,off2,c9,d,cs,hv9,hd9,hrel9,hl9,hcell⟩:=(HF.out.ext hE.out).cells (j:=j) (by simpa using hjk)
   simp only[Value.slice.injEq] at hv9
   obtain⟨rfl,-,-⟩:=hv9
   obtain⟨a1,a2,a3,rfl,o1,o2,o3⟩:=hrel9.out
   have HC9:=zh (show wr.rangeAt b2 (off2+j*4) [.int .i64 d,a1,a2,a3] from hcell)
   clear hcell hl9 hrel9
   go_upto_region 11 with(first|(refine wpList_load_mid rfl 86 _ rfl b2 (off2+j*4) rfl [.int .i64 d,a1,a2,a3] _ HC9.out Tryz.underlying86 rfl (hiFL _ _ _ _) ?_)|(refine wpList_store_M rfl 86 _ _ rfl wr.heap.size _ rfl rfl 86 _ (Blk.new _ _ _) hiF rfl (by simp[Value.oneCell'];exact⟨o1,o2,o3⟩) ?_;intro w10 P10 M10))
   have E10:Ext wr w10:=Mod.toExt ((Ext.refl wr).alloc _) M10 (fun k hk he=>by omega)
   have kp0:=P10.cell 0
   simp only[List.getElem?_toArray,List.getElem?_cons_zero] at kp0
   have hE10:=zh (hE.out.trans E10)
   have HO10:=zh (HO.out.ext E10)
   have hlm:(([1,3,3,3,3,6]:List Int).take (j+1)).length=j+1:=by rw[List.length_take];simp;omega
   obtain⟨Ao,co,rfl,-,-⟩:=HO.out.shape
   rw[hlm] at HO10⊢
   have hvf:([1,3,3,3,3,6]:List Int)[j+1]?=some d:=by rw[List.getElem?_cons_succ];exact hd9.out
   have HVF:=zh hvf
   have HRow:=zh HO10.out.row
   have hb10:=hE10.out.size
   clear HO hE E10 M10 P10 hvf HC9 o1 o2 o3 hd9
   go_wp2_with(at_builtin;refine wpList_app (e:=Ib) (base:=w2.heap.size) (B:=fun _=>False) (A:=fun _=>False) rfl (.tmp 36) (.tmp 39) rfl Tryz.underlying109 ZdM rfl (HO10.out.alloc _) rfl (RdY.singleB (e:=Ib) (cs:=[.int .i64 d]) (d:=d) rfl (Blk.new _ _ _)) rfl (fun _ _ h=>h.elim) (N:=j+1+1) (by rw[hlm];rfl) (by unfold maxLen;omega) (by omega) (by simp;omega) ?_;intro A14 c14 w14 o14 M14 _)
   have M15:Mod (fun k=>(Value.slice Ao (j+1) co).ownBlock=some k) w10 w14:=(Mod.of_ext ((Ext.refl w10).alloc _)).trans M14
   refine⟨⟨j+1,by omega,by go_num,zh ?_,zh ?_⟩,by simp[intOf];omega⟩
   ·rw[List.take_add_one,HVF.out]
    exact o14
   ·exact Mod.toExt hE10.out M15 (fun k hk he=>by have:=(HRow.out _ he).1;omega)
  ·obtain rfl:j=5:=by omega
   obtain⟨wq,rfl⟩:=zn (wr)
   have hO9:=HO.out
   rw[show([1,3,3,3,3,6]:List Int).take (5+1)=fs.map (·.k) from by rw[HKS.out];rfl] at hO9
   obtain⟨Ao,co,rfl,-,-⟩:=hO9.shape
   have E0r:=E02.out.trans hE.out
   have HRD:=zh (ZgQ _ _ fs wq (RdS.ri hO9.rdT) (RdN.ext (show RI .u8 w (.slice (some ⟨b,off,none⟩) L c) (encL fs) from H.out) E0r) (by rw[HFN.out];decide) HRK.out HCA.out HBS.out)
   have hlk:(fs.map (·.k)).length=6:=by rw[HKS.out];rfl
   rw[hlk] at HRD⊢
   have E0r:=zh E0r
   have B2:=zh (B2.out.ext hE.out)
   have B4:=zh (B4.out.ext hE.out)
   clear HO hO9 hE HF hlk
   unfold ReP at HRD
   go_wp2_with fail
   with_reducible refine(HRD.out).mono ?_
   rintro e w3 ⟨vl,rfl,o3,E3⟩
   obtain⟨Av,cv,rfl,hcv1,-⟩:=o3.shape
   have HL3:=zh ((o3.rd (A:=fun k=>wq.heap.size≤k) (fun k hk=>hk) (fun k hk=>hk)).lt)
   obtain⟨g3,rfl,hg3,-⟩:=OwnS.addr o3 (by rw[HFN.out];decide)
   rw[HFN.out] at HL3 hcv1⊢
   have hcne:¬cv=1:=by omega
   have hg3l:g3<w3.heap.size:=(o3.row g3 rfl).2
   have E03:=zh (E0r.out.trans E3)
   have hzq:=E0r.out.size
   have hb4q:=B4.out.lt
   have B2:=zh (B2.out.ext E3)
   have B4:=zh (B4.out.ext E3)
   have hgn:¬g3=n2+1:=by omega
   clear o3 HRD E3 E0r
   obtain⟨b0,of0,he0,-,HF0⟩:=Zb7 HL3.out.y (by decide)
   simp only[Option.some.injEq,Addr.mk.injEq] at he0
   obtain⟨rfl,rfl,-⟩:=he0
   have d10:=(HF0 1 _ _ _ (by decide) (by rw[HFSD.out];rfl)).1
   have d11:=(HF0 2 _ _ _ (by decide) (by rw[HFSD.out];rfl)).1
   have d12:=(HF0 3 _ _ _ (by decide) (by rw[HFSD.out];rfl)).1
   have d13:=(HF0 4 _ _ _ (by decide) (by rw[HFSD.out];rfl)).1
   obtain⟨At4,_,ct4,rfl,d24,ht4⟩:=(HF0 5 _ _ _ (by decide) (by rw[HFSD.out];rfl)).2
   clear HF0
   have q0:=B4.out.cell 0
   simp only[mg0,List.getElem?_toArray,List.getElem?_cons_zero] at q0
   go_upto_region 27 with fail
   refine zg (fun w'=>Mod (fun k=>k=n2+1) w3 w') (Mod.of_ext (Ext.drew (Ext.refl _))) fun hHeld=>?_
   obtain⟨D,hD⟩:=zn (w3.drew)
   have ED:Ext w3 D:=by rw[hD];exact(Ext.refl _).drew
   rw[←hD] at hHeld⊢
   clear hD
   refine zr 0 ?_
   refine zr 1 ?_
   refine zr 2 ?_
   (refine zu 3 (fun _ h=>(h.cell g3 5 hg3l hgn).trans d10) ?_)
   refine zr 4 ?_
   refine zr 5 ?_
   refine zr 6 ?_
   (refine zu 7 (fun _ h=>(h.cell g3 9 hg3l hgn).trans d11) ?_)
   refine zr 8 ?_
   refine zr 9 ?_
   refine zr 10 ?_
   (refine zu 11 (fun _ h=>(h.cell g3 13 hg3l hgn).trans d12) ?_)
   refine zr 12 ?_
   refine zr 13 ?_
   refine zr 14 ?_
   (refine zu 15 (fun _ h=>(h.cell g3 17 hg3l hgn).trans d13) ?_)
   refine zr 16 ?_
   refine zr 17 ?_
   refine zr 18 ?_
   (refine zu 19 (fun _ h=>(h.cell g3 22 hg3l hgn).trans d24) ?_)
   have B4:=zh (show Blk D (n2+1) 62 #[.int .i64 91,.int .u32 0,.int .u32 0,.int .u32 0,.int .u32 0,.int .u32 0,.string ⟨#[]⟩,.string ⟨#[]⟩,.bool false,.slice none 0 0] from B4.out.ext ED)
   have MM:=zh (show Mod (fun k=>k=n2+1) w3 D from Mod.of_ext ED)
   clear ED
   refine zr 20 ?_
   refine zs 21 1 B4 MM fun D0 B4 MM hHeld=>?_
   refine zr 22 ?_
   refine zs 23 2 B4 MM fun D1 B4 MM hHeld=>?_
   refine zr 24 ?_
   refine zs 25 3 B4 MM fun D2 B4 MM hHeld=>?_
   refine zr 26 ?_
   refine zs 27 4 B4 MM fun D3 B4 MM hHeld=>?_
   refine zr 28 ?_
   refine zs 29 9 B4 MM fun D4 B4 MM hHeld=>?_
   refine zd ?_
   clear hHeld
   have hn2:=HN2.out
   have HDA:=zh (ht4.out.mod MM.out (fun k _ hk he=>by omega))
   have HWD:=zh (fun v w'=>ZlE (m.ch) (m.se) (m.wi) (m.pk) 0 v w')
   go_wp2_with(first|(refine wpList_load_row rfl 62 _ rfl _ rfl 62 _ _ _ B4.out Tryz.underlying62 rfl hiM ?_)|fail)
   refine(HWD.out _ _).mono ?_
   rintro e w8 ⟨rfl,E8⟩
   have B4:=zh (B4.out.ext E8)
   have B2:=zh ((B2.out.mod MM.out (by omega)).ext E8)
   go_wp2_with(first|(refine wpList_load_row rfl 62 _ rfl _ rfl 62 _ _ _ B4.out Tryz.underlying62 rfl hiM ?_)|(refine wpList_store_M rfl 62 _ _ rfl n2 _ rfl rfl 62 _ B2.out hiM rfl (by simp[Value.oneCell']) ?_;intro w10 P10 M10))
   refine bodyPost_ret_by (Kb.Zab Tryz.results39 _ _ n2 62 _ _ _ rfl _ rfl P10 Tryz.underlying62 rfl hiM) rfl ?_
   refine⟨_,rfl,((HDA.out.ext E8).mod M10 (fun k _ hk he=>by omega)).mono (fun k _ hk=>by omega),?_⟩
   exact Mod.toExt ((Mod.toExt E03.out MM.out (fun k hk he=>by omega)).trans E8) M10 (fun k hk he=>by omega)
theorem Ziz (K:Int)(hK:K=99∨K=100)(m:Mg)(vb:Value)(w:World)(hm:MgS m)(hk:m.k=K)(hg:GoodM m)(h:RI .u8 w vb (encM m)):Calls Tryz.prog 39 #[vb] w (Zn0 ⟨K,m.ch,0,0,0,0,⟨#[]⟩,⟨#[]⟩,false,[]⟩ w):=by
 rcases hK with rfl|rfl
 all_goals
  have hiM:=zi Tryz.prog 62 10
  have hiF:=zi Tryz.prog 86 4
  have hiFL:∀a b c d:Value,(Tryz.prog.info? 86).map (·.size)=some [a,b,c,d].length:=fun _ _ _ _=>hiF
  have hbs:=Zg5 hg
  obtain⟨fs,hfsd⟩:∃fs:List Fd,fs=[⟨1,m.k,[]⟩,⟨3,m.ch,[]⟩]:=⟨_,rfl⟩
  rw[hk] at hfsd
  have hfs:encM m=encL fs:=by
   have hrw:rowL m.k=some [paChan]:=by simp[rowL,hk]
   unfold encM
   rw[hrw,hfsd]
   simp[flds,vOf,paChan,hk]
  rw[hfs] at h hbs
  have hca:∀f∈fs,Zeb f∧f.k≠2:=by
   rw[hfsd]
   intro f hf
   simp only[List.mem_cons,List.not_mem_nil,or_false] at hf
   rcases hf with rfl|rfl
   ·exact⟨.inl ⟨rfl,by decide,rfl⟩,by decide⟩
   ·exact⟨.inr (.inr (.inl ⟨rfl,hm.ch,rfl⟩)),by show(3:Int)≠2;decide⟩
  have hks:fs.map (·.k)=[1,3]:=by rw[hfsd];rfl
  have hrk:Zdw (fs.map (·.k)):=by
   rw[hks]
   intro i x hi
   rcases i with _|_|i
   all_goals simp at hi
   all_goals (subst hi;decide)
  have hN:fs.length=2:=by rw[hfsd];rfl
  have hhd:∃r,encL fs=m.k::r:=by rw[hfsd,hk];exact⟨_,rfl⟩
  rw[hk] at hhd
  have HFSD:=zh hfsd
  have HHD:=zh hm
  have HK9:=zh hk
  clear hfsd hfs hm hk hg
  obtain⟨A,c,rfl,hc1,hc2⟩:=h.shape
  obtain⟨L,hL⟩:=zm ((encL fs).length)
  obtain⟨r,hr⟩:=hhd
  have hL0:0<L:=by rw[←hL,hr];simp
  have H:=zh (show RdN w 1 (.slice A L c) (encL fs).length ((encL fs).map (Value.int .u8)) by rw[←hL];exact h)
  rw[hL] at hc1⊢
  obtain⟨b,off,x,rfl,kx,hx⟩:=RdN.icell (l:=encL fs) (k:=.u8) H.out hL0
  rw[Nat.add_zero] at kx
  have HBS:=zh hbs
  have HCA:=zh hca
  have HRK:=zh hrk
  have HKS:=zh hks
  have HFN:=zh hN
  have hLb:((L:Int)==0)=false:=by simp;omega
  obtain⟨W1,hW1⟩:=zn ((w.alloc (.cells #[.int .i64 0,.int .u32 0,.int .u32 0,.int .u32 0,.int .u32 0,.int .u32 0,.string ⟨#[]⟩,.string ⟨#[]⟩,.bool false,.slice none 0 0] 62)).alloc (.cells #[.int .i64 x,.int .u32 0,.int .u32 0,.int .u32 0,.int .u32 0,.int .u32 0,.string ⟨#[]⟩,.string ⟨#[]⟩,.bool false,.slice none 0 0] 62))
  have E1:Ext w W1:=by rw[hW1];exact((Ext.refl _).alloc _).alloc _
  have B2:=zh (show Blk W1 w.heap.size 62 (mgA (mg0 0) (.slice none 0 0)) by rw[hW1];exact(Blk.new w _ _).alloc _)
  have B4:=zh (show Blk W1 (w.heap.size+1) 62 (mgA (mg0 x) (.slice none 0 0)) by rw[hW1];exact Blk.at_ _ _ (by simp))
  have HW1:=zh hW1
  have kx1:=Zaa ((Ext.refl w).alloc (.cells #[.int .i64 0,.int .u32 0,.int .u32 0,.int .u32 0,.int .u32 0,.int .u32 0,.string ⟨#[]⟩,.string ⟨#[]⟩,.bool false,.slice none 0 0] 62)) kx
  have h9:=hx.out
  rw[hr] at h9
  simp only[List.getElem?_cons_zero,Option.some.injEq] at h9
  subst h9
  clear h hbs hca hrk hks hN hL hr hx kx hW1
  go_enter Tryz.func39,Tryz.ntmps39
  go_upto_region 4 with fail
  rw[←HW1.out]
  clear HW1 kx1
  obtain⟨n2,hn2⟩:=zm (w.heap.size)
  have HN2:=zh hn2
  rw[hn2] at B2 B4⊢
  clear hn2
  go_wp2_with(first|(refine wpList_load_row rfl 62 _ rfl _ rfl 62 _ _ _ B4.out Tryz.underlying62 rfl hiM ?_)|fail)
  first|(have h9:m.k=99:=HK9.out;clear h9;refine(rfields_99 _).mono ?_)|(have h9:m.k=100:=HK9.out;clear h9;refine(rfields_100 _).mono ?_)
  rintro e w2 ⟨Af,cf,rfl,hF,E2⟩
  have HF:=zh hF
  have E02:=zh (E1.trans E2)
  have B2:=zh (B2.out.ext E2)
  have B4:=zh (B4.out.ext E2)
  clear hF E1 E2
  simp only[List.length_cons,List.length_nil,Nat.reduceAdd] at HF⊢
  go_upto_region 8 with fail
  have HO0:=zh (show OwnS Ib 3 w2.heap.size (fun _=>False) (w2.alloc (.cells #[.int .i64 1] 3)) (.slice (some ⟨w2.heap.size,0,none⟩) 1 1) (([1,3]:List Int).take 1) from by
   refine OwnS.litB (A:=fun _=>False) (cs:=[.int .i64 1]) ?_ (Blk.new _ _ _) (fun k _ h=>h.elim) (Nat.le_refl _) rfl (by omega)
   exact RdE.single (e:=Ib) (d:=1) rfl)
  have HE0:=zh ((Ext.refl w2).alloc (.cells #[.int .i64 1] 3))
  go_wp2
  go_loopw [7,32] (fun u i wr=>∃j:Nat,j≤1∧i= .int .i64 j∧Hid (OwnS Ib 3 w2.heap.size (fun _=>False) wr u (([1,3]:List Int).take (j+1)))∧Hid (Ext w2 wr)) (fun _ i _=>1 - (intOf i).toNat)
  case atStart=>exact⟨0,Nat.zero_le _,rfl,HO0,HE0⟩
  case round=>
   clear HO0 HE0
   obtain⟨j,hj,rfl,HO,hE⟩:=hrel
   by_cases hjk:j<1
   ·obtain⟨b2,off2,c9,d,cs,hv9,hd9,hrel9,hl9,hcell⟩:=(HF.out.ext hE.out).cells (j:=j) (by simpa using hjk)
    simp only[Value.slice.injEq] at hv9
    obtain⟨rfl,-,-⟩:=hv9
    obtain⟨a1,a2,a3,rfl,o1,o2,o3⟩:=hrel9.out
    have HC9:=zh (show wr.rangeAt b2 (off2+j*4) [.int .i64 d,a1,a2,a3] from hcell)
    clear hcell hl9 hrel9
    go_upto_region 11 with(first|(refine wpList_load_mid rfl 86 _ rfl b2 (off2+j*4) rfl [.int .i64 d,a1,a2,a3] _ HC9.out Tryz.underlying86 rfl (hiFL _ _ _ _) ?_)|(refine wpList_store_M rfl 86 _ _ rfl wr.heap.size _ rfl rfl 86 _ (Blk.new _ _ _) hiF rfl (by simp[Value.oneCell'];exact⟨o1,o2,o3⟩) ?_;intro w10 P10 M10))
    have E10:Ext wr w10:=Mod.toExt ((Ext.refl wr).alloc _) M10 (fun k hk he=>by omega)
    have kp0:=P10.cell 0
    simp only[List.getElem?_toArray,List.getElem?_cons_zero] at kp0
    have hE10:=zh (hE.out.trans E10)
    have HO10:=zh (HO.out.ext E10)
    have hlm:(([1,3]:List Int).take (j+1)).length=j+1:=by rw[List.length_take];simp;omega
    obtain⟨Ao,co,rfl,-,-⟩:=HO.out.shape
    rw[hlm] at HO10⊢
    have hvf:([1,3]:List Int)[j+1]?=some d:=by rw[List.getElem?_cons_succ];exact hd9.out
    have HVF:=zh hvf
    have HRow:=zh HO10.out.row
    have hb10:=hE10.out.size
    clear HO hE E10 M10 P10 hvf HC9 o1 o2 o3 hd9
    go_wp2_with(at_builtin;refine wpList_app (e:=Ib) (base:=w2.heap.size) (B:=fun _=>False) (A:=fun _=>False) rfl (.tmp 36) (.tmp 39) rfl Tryz.underlying109 ZdM rfl (HO10.out.alloc _) rfl (RdY.singleB (e:=Ib) (cs:=[.int .i64 d]) (d:=d) rfl (Blk.new _ _ _)) rfl (fun _ _ h=>h.elim) (N:=j+1+1) (by rw[hlm];rfl) (by unfold maxLen;omega) (by omega) (by simp;omega) ?_;intro A14 c14 w14 o14 M14 _)
    have M15:Mod (fun k=>(Value.slice Ao (j+1) co).ownBlock=some k) w10 w14:=(Mod.of_ext ((Ext.refl w10).alloc _)).trans M14
    refine⟨⟨j+1,by omega,by go_num,zh ?_,zh ?_⟩,by simp[intOf];omega⟩
    ·rw[List.take_add_one,HVF.out]
     exact o14
    ·exact Mod.toExt hE10.out M15 (fun k hk he=>by have:=(HRow.out _ he).1;omega)
   ·obtain rfl:j=1:=by omega
    obtain⟨wq,rfl⟩:=zn (wr)
    have hO9:=HO.out
    rw[show([1,3]:List Int).take (1+1)=fs.map (·.k) from by rw[HKS.out];rfl] at hO9
    obtain⟨Ao,co,rfl,-,-⟩:=hO9.shape
    have E0r:=E02.out.trans hE.out
    have HRD:=zh (ZgQ _ _ fs wq (RdS.ri hO9.rdT) (RdN.ext (show RI .u8 w (.slice (some ⟨b,off,none⟩) L c) (encL fs) from H.out) E0r) (by rw[HFN.out];decide) HRK.out HCA.out HBS.out)
    have hlk:(fs.map (·.k)).length=2:=by rw[HKS.out];rfl
    rw[hlk] at HRD⊢
    have E0r:=zh E0r
    have B2:=zh (B2.out.ext hE.out)
    have B4:=zh (B4.out.ext hE.out)
    clear HO hO9 hE HF hlk
    unfold ReP at HRD
    go_wp2_with fail
    with_reducible refine(HRD.out).mono ?_
    rintro e w3 ⟨vl,rfl,o3,E3⟩
    obtain⟨Av,cv,rfl,hcv1,-⟩:=o3.shape
    have HL3:=zh ((o3.rd (A:=fun k=>wq.heap.size≤k) (fun k hk=>hk) (fun k hk=>hk)).lt)
    obtain⟨g3,rfl,hg3,-⟩:=OwnS.addr o3 (by rw[HFN.out];decide)
    rw[HFN.out] at HL3 hcv1⊢
    have hcne:¬cv=1:=by omega
    have hg3l:g3<w3.heap.size:=(o3.row g3 rfl).2
    have E03:=zh (E0r.out.trans E3)
    have hzq:=E0r.out.size
    have hb4q:=B4.out.lt
    have B2:=zh (B2.out.ext E3)
    have B4:=zh (B4.out.ext E3)
    have hgn:¬g3=n2+1:=by omega
    clear o3 HRD E3 E0r
    obtain⟨b0,of0,At0,ct0,f0,hA0,-,d10,d20,-,hd0,ht0⟩:=Zfh HL3.out.y (j:=1) (by decide)
    simp only[Option.some.injEq,Addr.mk.injEq] at hA0
    obtain⟨rfl,rfl,-⟩:=hA0
    have hf0:f0=⟨3,m.ch,[]⟩:=by
     have h9:=hd0.out
     rw[HFSD.out] at h9
     simpa using h9.symm
    subst hf0
    simp only[Nat.zero_add,Nat.reduceMul,Nat.reduceAdd] at d10
    clear d20 ht0 hd0
    have q0:=B4.out.cell 0
    simp only[mg0,List.getElem?_toArray,List.getElem?_cons_zero] at q0
    have q9:=B4.out.cell 1
    have f9:=B4.out.frozen 1
    simp only[mg0,List.getElem?_toArray,List.getElem?_cons_zero,List.getElem?_cons_succ] at q9
    go_upto_region 43 with fail
    have B4:=zh (show Blk (w3.setCell ⟨n2+1,1,none⟩ (.int .u32 m.ch)) (n2+1) 62 #[.int .i64 _,.int .u32 m.ch,.int .u32 0,.int .u32 0,.int .u32 0,.int .u32 0,.string ⟨#[]⟩,.string ⟨#[]⟩,.bool false,.slice none 0 0] by simpa [mg0] using B4.out.set_ 1 (.int .u32 m.ch))
    have MM:=zh (show Mod (fun k=>k=n2+1) w3 (w3.setCell ⟨n2+1,1,none⟩ (.int .u32 m.ch)) from(Mod.refl _ _).set1 _)
    clear q9 f9
    generalize w3.setCell ⟨n2+1,1,none⟩ (.int .u32 m.ch)=D0 at*
    have hn2:=HN2.out
    go_wp2_with(first|(refine wpList_load_row rfl 62 _ rfl _ rfl 62 _ _ _ B4.out Tryz.underlying62 rfl hiM ?_)|fail)
    first|(have h9:m.k=99:=HK9.out;clear h9;refine(rwords_99 (m.ch) 0 0 0 0 _ _).mono ?_)|(have h9:m.k=100:=HK9.out;clear h9;refine(rwords_100 (m.ch) 0 0 0 0 _ _).mono ?_)
    rintro e w8 ⟨rfl,E8⟩
    have B4:=zh (B4.out.ext E8)
    have B2:=zh ((B2.out.mod MM.out (by omega)).ext E8)
    go_wp2_with(first|(refine wpList_load_row rfl 62 _ rfl _ rfl 62 _ _ _ B4.out Tryz.underlying62 rfl hiM ?_)|(refine wpList_store_M rfl 62 _ _ rfl n2 _ rfl rfl 62 _ B2.out hiM rfl (by simp[Value.oneCell']) ?_;intro w10 P10 M10))
    refine bodyPost_ret_by (Kb.Zab Tryz.results39 _ _ n2 62 _ _ _ rfl _ rfl P10 Tryz.underlying62 rfl hiM) rfl ?_
    refine⟨_,rfl,RdS.nil _ _ _,?_⟩
    exact Mod.toExt ((Mod.toExt E03.out MM.out (fun k hk he=>by omega)).trans E8) M10 (fun k hk he=>by omega)
def rM (m:Mg):Mg:=
 if m.k=91 then⟨91,m.ch,m.se,m.wi,m.pk,0,⟨#[]⟩,⟨#[]⟩,false,m.da⟩ else if m.k=99 then⟨99,m.ch,0,0,0,0,⟨#[]⟩,⟨#[]⟩,false,[]⟩ else⟨100,m.ch,0,0,0,0,⟨#[]⟩,⟨#[]⟩,false,[]⟩
structure MgV (m:Mg):Prop where
 s:MgS m
 g:GoodM m
 k:m.k=91∨m.k=99∨m.k=100
theorem Zn1 (m:Mg)(vb:Value)(w:World)(hm:MgV m)(h:RI .u8 w vb (encM m)):Calls Tryz.prog 39 #[vb] w (Zn0 (rM m) w):=by
 unfold rM
 rcases hm.k with hk|hk|hk
 ·rw[if_pos hk];exact Zqs m vb w hm.s hk hm.g h
 ·rw[if_neg (by omega),if_pos hk];exact Ziz 99 (.inl rfl) m vb w hm.s hk hm.g h
 ·rw[if_neg (by omega),if_neg (by omega)];exact Ziz 100 (.inr rfl) m vb w hm.s hk hm.g h
theorem Zn2 (ms:List Mg)(h:∀m∈ms,GoodM m):Zbd (pks ms)=(ms.map encM,some []):=by
 induction ms with
 |nil=>exact ZcJ (by simp[pks])
 |cons m ms ih=>
  have h1:=ih (fun x hx=>h x (List.mem_cons_of_mem _ hx))
  have h2:pks (m::ms)=Fr.four ((encM m).length:Int)++encM m++pks ms:=rfl
  rw[h2,Fr.Zmw _ _ (Za2 (h m List.mem_cons_self)),h1]
  rfl
theorem Zez (ms:List Mg)(h:∀m∈ms,GoodM m):ZbC false (pks ms)=(([],false),(ms.map encM,0)):=ZbT (Zn2 ms h)
theorem ZoD {m:Mg}(h:GoodM m):Bs (pkM m):=by
 have h1:=Za2 h
 intro x hx
 rcases List.mem_append.1 hx with hx|hx
 ·exact Zfk _ (by omega) (by omega) x hx
 ·exact Zg5 h x hx
theorem ZoE (ms:List Mg)(h:∀m∈ms,GoodM m):Bs (pks ms):=by
 induction ms with
 |nil=>intro x hx;simp[pks] at hx
 |cons m ms ih=>
  intro x hx
  rcases List.mem_append.1 (show x∈pkM m++pks ms from hx) with hx|hx
  ·exact ZoD (h m List.mem_cons_self) x hx
  ·exact ih (fun y hy=>h y (List.mem_cons_of_mem _ hy)) x hx
def ZoF (ms:List Mg)(w:World)(e:Ending)(w':World):Prop:=∃u,e= .returned (.tuple #[u,.bool true])∧OwnS MgR 62 w.heap.size (fun k=>w.heap.size≤k) w' u (ms.map rM)∧Ext w w'
theorem ZiA (ms:List Mg)(v:Value)(w:World)(h:RI .u8 w v (pks ms))(hm:∀m∈ms,MgV m)(hn:ms.length≤1000):Calls Tryz.prog 15 #[v] w (ZoF ms w):=by
 have hiM:=zi Tryz.prog 62 10
 have hg:∀m∈ms,GoodM m:=fun m hx=>(hm m hx).g
 have hpl:(pks ms).length≤40000000:=by
  have h9:=Zkm ms hg
  omega
 have HFD:=zh (Fr.ZlD (.slice none 0 0) v false [] (pks ms) w (RdN.nil _ _) h (fun x hx=>by simp at hx) (ZoE ms hg) (by simp) hpl)
 rw[List.nil_append,Zez ms hg] at HFD
 have HM:=zh hm
 obtain⟨n,hnn⟩:=zm (ms.length)
 have HN:=zh hnn
 rw[hnn] at hn
 clear h hm hg hpl hnn
 go_enter Tryz.func15,Tryz.ntmps15
 go_wp2_with fail
 refine(HFD.out).mono ?_
 rintro e w2 ⟨rv,lv,rfl,hL,hR,-,E2⟩
 obtain⟨Ar,cr,rfl,-,-⟩:=hR.shape
 obtain⟨vs,hvl,hvr,hve⟩:=hL
 obtain⟨Al,cl,rfl,-,-⟩:=hvr.shape
 have hnl:(ms.map encM).length=n:=by rw[List.length_map];exact HN.out
 rw[hnl] at hvl hvr⊢
 simp only[List.length_nil]
 have HVR:=zh hvr
 have HVE:=zh hve
 have E02:=zh E2
 clear HFD hR hvr hve hnl
 go_upto_region 5 with fail
 obtain⟨w3,hw3⟩:=zn (w2.alloc (.cells #[.slice Ar 0 cr,.bool false] 135))
 have E3:Ext w2 w3:=by rw[hw3];exact(Ext.refl _).alloc _
 rw[←hw3]
 clear hw3
 have hE3:=zh (E02.out.trans E3)
 go_wp2
 go_loopw [7,29] (fun s i wr=>∃j:Nat,j≤n∧i= .int .i64 j∧Hid (OwnS MgR 62 w2.heap.size (fun k=>w2.heap.size≤k) wr s ((ms.map rM).take j))∧Hid (Ext w2 wr)) (fun _ i _=>n - (intOf i).toNat)
 case atStart=>exact⟨0,Nat.zero_le _,rfl,zh (OwnS.nil _ _ _ _ _),zh E3⟩
 case round=>
  obtain⟨j,hj,rfl,HO,hE⟩:=hrel
  by_cases hjn:j<n
  ·obtain⟨x,hx⟩:∃x,vs[j]?=some x:=⟨_,List.getElem?_eq_getElem (by rw[hvl];exact hjn)⟩
   obtain⟨m,hmj⟩:∃m,ms[j]?=some m:=⟨_,List.getElem?_eq_getElem (by rw[HN.out];exact hjn)⟩
   have hX:=RdN.ext (HVE.out j x (encM m) hx (by rw[List.getElem?_map,hmj];rfl)) hE.out
   have HDE:=zh (Zn1 m x wr (HM.out m (List.mem_of_getElem? hmj)) hX)
   unfold Zn0 at HDE
   obtain⟨b9,off,c9,hv9,-,-,hcl⟩:=(HVR.out.ext hE.out).form (by omega)
   simp only[Value.slice.injEq] at hv9
   obtain⟨rfl,-,rfl⟩:=hv9
   have kx:=hcl j x hx
   have HMJ:=zh (show(ms.map rM)[j]?=some (rM m) by rw[List.getElem?_map,hmj];rfl)
   obtain⟨Ao,co,rfl,-,-⟩:=HO.out.shape
   have htk:((ms.map rM).take j).length=j:=by rw[List.length_take,List.length_map,HN.out];omega
   rw[htk] at HO⊢
   have hz2:=E02.out.size
   have hzr:=hE.out.size
   obtain⟨rm,hrm⟩:=zm (rM m)
   rw[hrm] at HDE HMJ
   clear hcl hX hx hmj hrm
   go_wp2_with fail
   refine(HDE.out).mono ?_
   rintro e w8 ⟨vd,rfl,hvd,E8⟩
   obtain⟨Ad,cd,rfl,-,-⟩:=hvd.shape
   go_upto_region 11 with fail
   obtain⟨W9,hW9⟩:=zn (w8.alloc (.cells (mgA rm (.slice Ad rm.da.length cd)) 62))
   have E9:Ext w8 W9:=by rw[hW9];exact(Ext.refl _).alloc _
   have P9:=zh (show Blk W9 w8.heap.size 62 (mgA rm (.slice Ad rm.da.length cd)) by rw[hW9];exact Blk.new w8 _ _)
   rw[←hW9]
   have HO9:=zh (HO.out.ext (E8.trans E9))
   have hoR:=zh HO.out.row
   have hE9:=zh ((hE.out.trans E8).trans E9)
   have HD9:=zh (hvd.ext E9)
   have hz9:=hE9.out.size
   clear hW9 HO hE hvd E8 E9 HDE
   go_wp2_with(first
    |(refine wpList_load_row rfl 62 _ rfl _ rfl 62 _ _ _ P9.out Tryz.underlying62 rfl hiM ?_)
    |(at_builtin;refine wpList_app (e:=MgR) (base:=w2.heap.size) (B:=fun k=>w2.heap.size≤k) (A:=fun k=>wr.heap.size≤k) rfl (.tmp 40) (.tmp 42) rfl Tryz.underlying57 Zh3 rfl (HO9.out.alloc _) rfl (RdY.singleB (e:=MgR) (cs:=(mgA rm (.slice Ad rm.da.length cd)).toList) (d:=rm) ⟨.slice Ad rm.da.length cd,rfl,HD9.out.alloc _⟩ (Blk.new _ _ _)) rfl (fun k _ hk=>⟨by omega,fun he=>by have:=(hoR.out k he).2;omega⟩) (N:=j+1) (by rw[htk];rfl) (by unfold maxLen;omega) (by omega) (by simp;omega) ?_;intro A9 c9 w9 o9 M9 _))
   have M99:=(Mod.of_ext (S:=fun k=>(Value.slice Ao j co).ownBlock=some k) ((Ext.refl W9).alloc (.cells (mgA rm (.slice Ad rm.da.length cd)) 62))).trans M9
   refine⟨⟨j+1,by omega,by go_num,zh ?_,zh (Mod.toExt hE9.out M99 (fun k hk he=>by have:=(hoR.out k he).1;omega))⟩,by simp[intOf];omega⟩
   rw[List.take_add_one,HMJ.out]
   exact o9
  ·obtain rfl:j=n:=by omega
   rw[List.take_of_length_le (by rw[List.length_map,HN.out];exact Nat.le_refl _)] at HO
   go_wp2
   go_ret2
   exact⟨_,rfl,(HO.out.lower E02.out.size).mono (fun k _ h=>by have:=E02.out.size;omega),E02.out.trans hE.out⟩
end Go.Proofs.YtmmhcllibpmfnaaGreatDoor
namespace Go.Proofs.YtmmhcllibpmfnaaGreatDoor
open Go.RowKit Go.Kb
theorem SvW.sT {g kb base:Nat}{ns:List ByteArray}{S:SvT}{sb:Option Nat}{w w':World}{pv fv cv lv sv:Value}{bs:List Nat}{Ap:Option Addr}{cp:Nat}{tbs sbs:List Nat}(h:SvW g kb base ns S sb w pv fv cv lv sv bs Ap cp tbs sbs)(M:Mod (fun k=>k=g∨sv.ownBlock=some k) w w'):ZaR [143,5] base w w':=
 ZaR.of_mod M (fun k _ hk=>by
  rcases hk with hk|hk
  ·rw[hk];exact h.blk.ty (by decide) h.hbg
  ·exact h.sd.ty hk (by decide) (Nat.le_refl _))
theorem ZiB {l:List UInt8}{c:UInt8}(h:c∉l):Go.Lib.indexByte l c= -1:=by
 induction l with
 |nil=>rfl
 |cons b l ih=>
  have h1:¬b=c:=fun he=>h (by rw[he];exact List.mem_cons_self)
  have h2:=ih (fun hm=>h (List.mem_cons_of_mem _ hm))
  unfold Go.Lib.indexByte
  rw[h2]
  simp[h1]
theorem NameOk.cut {s:ByteArray}(h:NameOk s):Zgn s=s:=by
 unfold Zgn
 rw[if_pos (ZiB (fun hm=>absurd (h.ch _ hm) (by decide)))]
theorem NameOk.ok {s:ByteArray}(h:NameOk s):(rqE s).Ok:=by
 have h1:=h.le
 exact⟨by show s.size≤10000;omega,by show(⟨#[]⟩:ByteArray).size≤_;decide,by show(⟨#[]⟩:ByteArray).size≤_;decide,by simp[rqE],fun x hx=>by simp[rqE] at hx,⟨by simp[rqE],by simp[rqE]⟩,⟨by simp[rqE],by simp[rqE]⟩,⟨by simp[rqE],by simp[rqE]⟩,⟨by simp[rqE],by simp[rqE]⟩,⟨by simp[rqE],by simp[rqE]⟩⟩
theorem MgQG.good {m:Mg}(h:MgQG m):GoodM m:=⟨h.ok,psQ,h.row,h.fit,h.flt,h.len⟩
end Go.Proofs.YtmmhcllibpmfnaaGreatDoor
namespace Go.Proofs.YtmmhcllibpmfnaaGreatDoor
open Go.RowKit Go.Kb Go.Kb.Frame
def op5:Mg:=⟨90,0,50,100,100,0,Zsi,⟨#[]⟩,false,[]⟩
theorem ZsS:MgS op5:=⟨⟨by simp[op5],by simp[op5]⟩,⟨by decide,by decide⟩,⟨by simp[op5],by simp[op5]⟩,⟨by simp[op5],by simp[op5]⟩,⟨by simp[op5],by simp[op5]⟩,by show Zsi.size≤_;decide,rfl,by simp[op5],fun x hx=>by simp[op5] at hx⟩
theorem ZcA:GoodM op5:=by
 refine⟨ZsS.ok,[paName,paSender,paWindow,paPacket,paRest],?_,?_,?_,?_⟩
 ·simp[rowL,op5]
 ·simp only[FitP,op5]
  exact⟨by decide,by decide,by decide⟩
 ·intro f hf
  simp[flds,vOf,paName,paSender,paWindow,paPacket,paRest,op5] at hf
  rcases hf with rfl|rfl|rfl|rfl|rfl|rfl<;>simp[fltF]
  decide
 ·simp[flds,encL,encF,Fr.four,vOf,paName,paSender,paWindow,paPacket,paRest,op5]
  decide
theorem Zqt:ownM op5=op5:=by
 simp[ownM,op5,rowL,putAll,putM,vOf,mg0,paName,paSender,paWindow,paPacket,paRest,str_back]
def ch5:Ch:=⟨0,50,100,100,4096,0⟩
theorem ZhO (m:Mg):pks [m]=pkM m:=by simp[pks]
def WdO (g kb base:Nat)(ns:List ByteArray)(Q:SwT→Prop)(out:List Int)(sb:Option Nat)(w:World)(e:Ending)(w':World):Prop:=
 ∃ov S,e= .returned ov∧OwnS Ub8 5 base (fun _=>False) w' ov out∧Q S∧Zdy g kb base ns S none w'∧SwM base sb w w'
theorem ZjJ (g kb base:Nat)(ns:List ByteArray)(kv:Value)(sb:Option Nat)(vb:Value)(w:World)(hS:Zdy g kb base ns (swZ kb base kv) sb w)(hvb:RI .u8 w vb (pkM op5)):
 Calls Tryz.prog 16 #[.pointer (some ⟨g,0,none⟩),vb] w (WdO g kb base ns (fun S=>S=svQ kb base kv ch5 sn0 (.slice none 0 0) []) (pkM (ZaI [] op5)) sb w):=by
 have hl:=Zcg op5
 have hl2:=Za2 ZcA
 have hf:ZbC false (pkM op5)=(([],false),([encM op5],0)):=by
  have h9:=Zez [op5] (fun x hx=>by simp at hx;rw[hx];exact ZcA)
  rw[ZhO] at h9
  exact h9
 have h9:=ZgO g kb base ns (fun j S=>if j=0 then S=swZ kb base kv else S=svQ kb base kv ch5 sn0 (.slice none 0 0) (pkM (ZaI [] op5))) sb [encM op5] (pkM op5) vb w ⟨_,rfl,hS⟩ hvb (ZoD ZcA) (by omega) hf (by simp) (fun j S hj hs=>by
  by_cases h0:j=0
  ·rw[if_pos h0] at hs;rw[hs];rfl
  ·rw[if_neg h0] at hs;rw[hs]) (fun j p hp S v sb' w' hs h1 h2=>by
  rcases j with _|j
  ·obtain rfl:encM op5=p:=by simpa using hp
   rw[if_pos rfl] at hs
   subst hs
   refine ZgN g kb base ns (swZ kb base kv) _ sb' op5 [newC [] op5] false [ZaI [] op5] [Zoq []] v w' h1 rfl h2 ZcA Zqt
    (fun v2 w2 cv hv hc=>ZmC cv [] op5 v2 w2 hc (by decide) (fun j c hj=>by simp at hj) rfl rfl (by simp))
    (fun x hx=>by simp at hx;rw[hx];exact ZeZ ⟨by decide,by decide⟩ (by simp)) (by simp) (by simp[swZ]) ?_
   refine .inr ⟨Zoq [],150,rfl,fun w=>co_1 w,ZeJ,fun v3 sb3 w3 h3 _=>?_⟩
   refine(ZhL g kb base v3 ns _ sb3 (Zoq []) w3 h3 (by simp[swZ]) rfl).mono ?_
   rintro e w4 ⟨rfl,S4,sb4,hq,h4,h5,h6⟩
   refine⟨rfl,S4,sb4,?_,h4,h5,h6⟩
   show(if 0+1=0 then S4=swZ kb base kv else S4=svQ kb base kv ch5 sn0 (.slice none 0 0) (pkM (ZaI [] op5)))
   rw[if_neg (by simp),hq]
   simp only[swZ,List.nil_append,ZhO]
   rfl
  ·simp at hp)
 refine h9.mono ?_
 rintro e w' ⟨ov,S,rfl,hs,ho,ha,hm⟩
 rw[if_neg (by simp)] at hs
 subst hs
 exact⟨ov,_,rfl,ho,rfl,ha,hm⟩
structure RqG (r:Rq):Prop where
 ok:r.Ok
 k1:1≤r.k
 k10:r.k≤10
 a:Zbe r=0
abbrev kQ (r:Rq):Nat:=r.k.toNat
theorem RqG.k {r:Rq}(h:RqG r):r.k=(kQ r:Int)∧1≤kQ r∧kQ r≤10:=by
 have h1:=h.k1
 have h2:=h.k10
 unfold kQ
 omega
abbrev ZjK (ns:List ByteArray)(s:Sn)(r:Rq):Sn×Ac:=ZfM ns s (ownQ r (kQ r)) (kQ r)
abbrev msgR (r:Rq):Mg:=mgQ r (kQ r) 0 true
theorem ZbP {r:Rq}(h:RqG r):MgQG (msgR r):=Zm7 h.ok _ h.k.1 h.k.2.1 h.k.2.2 h.a 0 true ⟨by decide,by decide⟩
theorem ZlF (g kb base:Nat)(ns:List ByteArray)(Ak:Option Addr)(ck:Nat)(sb:Option Nat)(s:Sn)(ev:Value)(said:List Int)(r:Rq)(vb:Value)(w:World)
 (hS:Zdy g kb base ns (svQ kb base (.slice Ak ns.length ck) ch5 s ev said) sb w) (hsr:SnR s) (hsl:said.length≤100000) (hr:RqG r) (hvb:RI .u8 w vb (encM (msgR r))):
 Calls Tryz.prog 40 #[.pointer (some ⟨g,0,none⟩),vb] w fun e w'=>e= .returned (.tuple #[])∧
  ZgJ g kb base ns (fun S2=>∃ev',S2=svQ kb base (.slice Ak ns.length ck) ch5 (ZjK ns s r).1 ev' (said++pkM (ansM (ansK (ZjK ns s r).2.ok) ch5))) sb w w':=by
 have hg:=ZbP hr
 have hd:=Zgk hr.ok (kQ r) hr.k.1 hr.a
 have hlk:Zg7 [ch5]:=fun j c' hj=>by
  rcases j with _|j
  ·obtain rfl:=Option.some.inj hj
   rfl
  ·simp at hj
 refine ZgN g kb base ns (svQ kb base (.slice Ak ns.length ck) ch5 s ev said) _ sb (msgR r) ([ch5].set 0 (owe ch5 1)) false [] [askEv 0 (msgR r)] vb w hS rfl hvb hg.good (mgQ_own r _ 0 true)
  (fun v2 w2 cv hv hc=>ZmD cv [ch5] 0 ch5 (msgR r) v2 w2 hc (by simp) hlk rfl rfl rfl rfl rfl hv (by show(encL (fldsQ r (kQ r))).length≤_;omega))
  (fun x hx=>by simp at hx) (by simp) hsl ?_
 refine .inr ⟨askEv 0 (msgR r),154,rfl,fun w=>co_5 w,Zfw,fun v3 sb3 w3 h3 hd3=>?_⟩
 have e1:ZnY (svQ kb base (.slice Ak ns.length ck) ch5 s ev said) ([ch5].set 0 (owe ch5 1)) false []=svQ kb base (.slice Ak ns.length ck) (owe ch5 1) s ev said:=by
  simp[ZnY,pks]
 rw[e1] at h3
 exact ZnU g kb base v3 ns sb3 Ak ck (owe ch5 1) s ev said r (kQ r) w3 h3 hsr rfl rfl (by omega) ⟨by decide,by decide⟩ hd3 hr.k.1 hr.k.2.1 hr.k.2.2 hr.a hr.ok
def stQ (ns:List ByteArray)(s:Sn)(l:List Rq):Sn:=l.foldl (fun s r=>(ZjK ns s r).1) s
def ZiC (ns:List ByteArray)(s:Sn):List Rq→List Bool
 | []=>[]
 |r::l=>(ZjK ns s r).2.ok::ZiC ns (ZjK ns s r).1 l
theorem ZiD (ns:List ByteArray)(s:Sn)(l:List Rq)(r:Rq):stQ ns s (l++ [r])=(ZjK ns (stQ ns s l) r).1:=by simp[stQ]
theorem ZeA (ns:List ByteArray):∀ (l:List Rq) (s:Sn) (r:Rq),ZiC ns s (l++ [r])=ZiC ns s l++ [(ZjK ns (stQ ns s l) r).2.ok]
 | [],_,_=>rfl
 |x::l,s,r=>by
  show(ZjK ns s x).2.ok::ZiC ns (ZjK ns s x).1 (l++ [r])=_
  rw[ZeA ns l]
  rfl
theorem Zd0 (ns:List ByteArray):∀ (l:List Rq) (s:Sn),(ZiC ns s l).length=l.length
 | [],_=>rfl
 |x::l,s=>by show(ZiC ns _ l).length+1=_;rw[Zd0 ns l];rfl
theorem Zqu (ns:List ByteArray):∀ (l:List Rq) (s:Sn),SnR s→(∀r∈l,RqG r)→SnR (stQ ns s l)
 | [],_,h,_=>h
 |x::l,s,h,hl=>Zqu ns l _ (ZrP h (Ziw (hl x (by simp)).ok _) _) (fun r hr=>hl r (by simp[hr]))
def ZgZ (l:List Bool):List Mg:=l.map fun ok=>ansM (ansK ok) ch5
theorem ZeB (a b:List Mg):pks (a++b)=pks a++pks b:=by simp[pks]
theorem Zqv (ok:Bool)(c:Ch):(pkM (ansM (ansK ok) c)).length=9:=by
 rw[Zcg]
 cases ok<;>simp[encM,ansM,ansK,rowL,flds,encL,encF,Fr.four,vOf,paChan]
theorem ZlG:∀ (l:List Bool),(pks (ZgZ l)).length=9*l.length
 | []=>rfl
 |x::l=>by
  have h1:ZgZ (x::l)=[ansM (ansK x) ch5]++ZgZ l:=rfl
  rw[h1,ZeB,List.length_append,ZhO,Zqv,ZlG l,List.length_cons]
  omega
theorem ZjL (g kb base:Nat)(ns:List ByteArray)(Ak:Option Addr)(ck:Nat)(sb:Option Nat)(s:Sn)(ev:Value)(l:List Rq)(vb:Value)(w:World)
 (hS:Zdy g kb base ns (svQ kb base (.slice Ak ns.length ck) ch5 s ev []) sb w) (hsr:SnR s) (hl:∀r∈l,RqG r) (hn:l.length≤30) (hvb:RI .u8 w vb (pks (l.map msgR))):
 Calls Tryz.prog 16 #[.pointer (some ⟨g,0,none⟩),vb] w (WdO g kb base ns (fun _=>True) (pks (ZgZ (ZiC ns s l))) sb w):=by
 have hg:∀m∈l.map msgR,GoodM m:=fun m hm=>by
  obtain⟨r,hr,rfl⟩:=List.mem_map.1 hm
  exact(ZbP (hl r hr)).good
 have hlen:(pks (l.map msgR)).length≤40000*l.length:=by
  clear hvb hS hn
  induction l with
  |nil=>simp[pks]
  |cons r l ih=>
   have h1:(r::l).map msgR=[msgR r]++l.map msgR:=rfl
   have h2:=Zcg (msgR r)
   have h3:=Za2 (hg (msgR r) (by simp))
   have h4:=ih (fun r hr=>hl r (by simp[hr])) (fun m hm=>hg m (by simp at hm⊢;exact .inr hm))
   rw[h1,ZeB,List.length_append,ZhO,List.length_cons]
   omega
 have h9:=ZgO g kb base ns (fun j S=>∃ev',S=svQ kb base (.slice Ak ns.length ck) ch5 (stQ ns s (l.take j)) ev' (pks (ZgZ (ZiC ns s (l.take j))))) sb ((l.map msgR).map encM) (pks (l.map msgR)) vb w ⟨_,⟨ev,rfl⟩,hS⟩ hvb (ZoE _ hg) (by omega) (Zez _ hg) (by simp;omega)
  (fun j S _ hs=>by obtain⟨ev',rfl⟩:=hs;rfl) (fun j p hp S v sb' w' hs h1 h2=>by
  obtain⟨ev',rfl⟩:=hs
  rw[List.map_map,List.getElem?_map] at hp
  obtain⟨r,hr,hp2⟩:=Option.map_eq_some_iff.1 hp
  have hrl:=hl r (List.mem_of_getElem? hr)
  have hp3:encM (msgR r)=p:=hp2
  rw[←hp3] at h2
  have hlt:(l.take j).length≤30:=by rw[List.length_take];omega
  refine(ZlF g kb base ns Ak ck sb' (stQ ns s (l.take j)) ev' _ r v w' h1 (Zqu ns _ s hsr (fun x hx=>hl x (List.mem_of_mem_take hx))) (by rw[ZlG,Zd0];omega) hrl h2).mono ?_
  rintro e w2 ⟨rfl,S2,sb2,⟨ev2,hq⟩,h4,h5,h6⟩
  refine⟨rfl,S2,sb2,⟨ev2,?_⟩,h4,h5,h6⟩
  rw[hq,List.take_add_one,hr]
  have e1:pks (ZgZ (ZiC ns s (l.take j++ [r])))=pks (ZgZ (ZiC ns s (l.take j)))++pkM (ansM (ansK (ZjK ns (stQ ns s (l.take j)) r).2.ok) ch5):=by
   rw[ZeA,show ∀a b,ZgZ (a++ [b])=ZgZ a++ [ansM (ansK b) ch5] from fun a b=>by simp[ZgZ],ZeB,ZhO]
  show _=svQ kb base (.slice Ak ns.length ck) ch5 (stQ ns s (l.take j++ [r])) ev2 (pks (ZgZ (ZiC ns s (l.take j++ [r]))))
  rw[e1,ZiD])
 refine h9.mono ?_
 rintro e w' ⟨ov,S,rfl,⟨ev',hs⟩,ho,ha,hm⟩
 rw[List.length_map,List.length_map,List.take_length] at hs
 subst hs
 exact⟨ov,_,rfl,ho,trivial,ha,hm⟩
theorem Zn3 (r:Rq)(v:Value)(w:World)(h:RdS Ub8 (fun j=>j<w.heap.size) w v r.mo)(hr:RqG r):Calls Tryz.prog 14 #[.int .u32 0,.agg (rqA r v),.bool true] w fun e w'=>∃u,e= .returned u∧OwnS Ub8 5 w.heap.size (fun _=>False) w' u (pkM (msgR r))∧Ext w w':=by
 have hiQ:=zi Tryz.prog 46 11
 obtain⟨Av,cv,rfl,-,-⟩:=h.shape
 obtain⟨W1,hW1⟩:=zn (w.alloc (.cells (rqA r (.slice Av r.mo.length cv)) 46))
 have E1:Ext w W1:=by rw[hW1];exact(Ext.refl _).alloc _
 have P1:=zh (show Blk W1 w.heap.size 46 (rqA r (.slice Av r.mo.length cv)) by rw[hW1];exact Blk.new w _ _)
 have HW1:=zh hW1
 have hz:=E1.size
 have HEN:=zh (Zej r (.slice Av r.mo.length cv) W1 ((h.ext E1).mono (fun j _ hj=>by omega)) hr.ok)
 have HR:=zh hr
 have HG:=zh (ZbP hr)
 clear hW1 h
 go_enter Tryz.func14,Tryz.ntmps14
 go_upto_region 1 with fail
 rw[←HW1.out]
 clear HW1
 go_wp2_with(first|(refine wpList_load_row rfl 46 _ rfl _ rfl 46 _ _ _ P1.out Tryz.underlying46 rfl hiQ ?_)|fail)
 refine(HEN.out).mono ?_
 rintro e w2 ⟨nm,u,q,rfl,E2,h0,-,h2⟩
 obtain rfl:=h2 (kQ r) HR.out.k.1 HR.out.k.2.1 HR.out.k.2.2 HR.out.a
 obtain⟨k,hk,h1,h10,rfl,-,ho⟩:=h0 rfl
 obtain rfl:k=kQ r:=by
  unfold kQ
  omega
 have HO:=zh ho
 have HPK:=zh (ZeV (msgR r) u w2 ((ho.rd (A:=fun i=>i<w2.heap.size∨W1.heap.size≤i) (fun i hi=>.inr hi) (fun _ hi=>hi.elim)).lt.mono (fun i _ hi=>hi.2)) HG.out.good)
 obtain⟨Au,cu,rfl,-,-⟩:=ho.shape
 clear h0 h2 ho hk HEN
 go_wp2_with fail
 refine(HPK.out).mono ?_
 rintro e w3 ⟨u3,rfl,O3,E3⟩
 have hz2:=E2.size
 go_wp2
 go_ret
 exact⟨_,rfl,O3.lower (by omega),(E1.trans E2).trans E3⟩
theorem Zqw (m:Mg):pks [m]=pkM m:=by simp[pks]
def NoC (M:Nat)(w:World):Prop:=∀cs t fr,w.heap[M]?≠some (.cells cs t fr)
theorem Zeo.noc {kt mt:TypeId}{α:Type}[DecidableEq α]{K:KeyT kt mt α}{M:Nat}{w:World}{S:List α}(h:Zeo K M w S):NoC M w:=fun _ _ _=>h.cells
theorem NoC.ty {M:Nat}{w:World}(h:NoC M w){ts:List TypeId}{base:Nat}:¬ZaT ts base w M:=by
 rintro⟨-,cs,t,fr,h2,-⟩
 exact h cs t fr h2
theorem NoC.blk {M k:Nat}{w:World}(h:NoC M w){t:TypeId}{cs:Array Value}(hb:Blk w k t cs):k≠M:=fun he=>by
 subst he
 exact h _ _ _ hb
theorem NoC.own {M:Nat}{w:World}(h:NoC M w){D:Type}{e:Rep D}{T:TypeId}{base:Nat}{B:Nat→Prop}{v:Value}{l:List D}(ho:OwnS e T base B w v l):∀k,v.ownBlock=some k→k≠M:=fun k hk he=>by
 subst he
 obtain⟨-,cs,fr,h2⟩:=ho.blkE hk
 exact h _ _ _ h2
theorem NoC.keep {M:Nat}{w w':World}(h:NoC M w){D:Type}{e:Rep D}{T:TypeId}{base:Nat}{v:Value}{l:List D}(ho:OwnS e T base (fun _=>False) w v l)(m:Mod (fun k=>k=M) w w'):OwnS e T base (fun _=>False) w' v l:=
 ho.mod m (h.own ho) (fun _ _ hk=>hk.elim)
theorem Zna.map {g kb base:Nat}{ns:List ByteArray}{S:SvT}{sb:Option Nat}{w w':World}{M:Nat}(h:Zna g kb base ns S sb w)(hn:NoC M w)(m:Mod (fun k=>k=M) w w'):Zna g kb base ns S sb w':=by
 obtain⟨pv,fv,cv,lv,sv,bs,Ap,cp,tbs,sbs,h⟩:=h
 obtain⟨hkb,At,ct,tk,ss,HB,HP,HT,HTA,HS,HSA⟩:=h.kr
 exact⟨pv,fv,cv,lv,sv,bs,Ap,cp,tbs,sbs,Nat.le_trans h.hb m.size,h.hbg,h.blk.mod m (hn.blk h.blk),h.em,hn.keep h.pg m,hn.keep h.ch m,hn.keep h.ln m,h.la.mod m (fun b hb=>by obtain⟨x,_,h9⟩:=h.la.blkOf hb;exact hn.blk h9),h.nd,h.bb,hn.keep h.sd m,h.sb,
  ⟨hkb,At,ct,tk,ss,HB.mod m (hn.blk HB),hn.keep HP m,hn.keep HT m,HTA.mod m (fun b hb=>by obtain⟨x,_,h9⟩:=HTA.mem hb;exact hn.blk h9),hn.keep HS m,fun b hb=>(HSA b hb).mod m (by obtain⟨id,ld,i,o,r,hb9⟩:=(HSA b hb).blk;exact hn.blk hb9)⟩,h.kl⟩
theorem SvM.fresh {base:Nat}{w0 w w':World}(h:SvM base none w w')(E:Ext w0 w)(hb:w0.heap.size≤base):Ext w0 w':=
 Mod.toExt E h (fun k hk he=>he.elim (fun h9=>by have:=h9.1;omega) (fun h9=>by cases h9))
theorem Zeo.sv {kt mt:TypeId}{α:Type}[DecidableEq α]{K:KeyT kt mt α}{M base:Nat}{w w':World}{S:List α}(h:Zeo K M w S)(m:SvM base none w w'):Zeo K M w' S:=
 h.mod m (fun h9=>h9.elim (fun h8=>h.noc.ty h8) (fun h8=>by cases h8))
theorem Zna.table {g kb base:Nat}{ns:List ByteArray}{S:SvT}{sb:Option Nat}{w:World}(h:Zna g kb base ns S sb w)(hn:S.pr.length≤1000):Calls Tryz.prog 21 #[.pointer (some ⟨g,0,none⟩)] w fun e w'=>∃A' c',e= .returned (.agg #[.slice A' S.pr.length c',.int .i64 S.nx])∧Ext w w':=by
 obtain⟨pv,fv,cv,lv,sv,bs,Ap,cp,tbs,sbs,h⟩:=h
 exact Zjo g kb base pv fv _ cv _ _ lv _ sv _ S.pr S.nx S.kn tbs sbs S.ts w h.blk h.kr hn
end Go.Proofs.YtmmhcllibpmfnaaGreatDoor
namespace Go.Proofs.YtmmhcllibpmfnaaGreatDoor
open Go.RowKit Go.Kb
theorem Zn4 {A:Nat→Prop}{w:World}{Ad:Option Addr}{n c j:Nat}{l:List (ByteArray×List Po)}(h:RdY PqR A w (.slice Ad n c) l)(hj:j<n):
 ∃b off nm ops A2 c2,Ad=some ⟨b,off,none⟩∧Hid (w.rangeAt b (off+j*2) [.string nm,.slice A2 ops.length c2])∧Hid (l[j]?=some (nm,ops))∧Hid (RdS OpR A w (.slice A2 ops.length c2) ops):=by
 obtain⟨Ad',c',hv,_⟩:=h.shape
 simp only[Value.slice.injEq] at hv
 obtain⟨rfl,rfl,rfl⟩:=hv
 obtain⟨b,off,c,d,cs,hv,hd,hr,hl,hc⟩:=h.cells hj
 simp only[Value.slice.injEq] at hv
 obtain⟨v,rfl,hr2⟩:=hr.out
 obtain⟨nm,ops⟩:=d
 dsimp only at hr2 hc
 obtain⟨A2,c2,rfl,-,-⟩:=hr2.shape
 exact⟨b,off,nm,ops,A2,c2,hv.1,zh hc,hd,zh hr2⟩
theorem Zr1 {A:Nat→Prop}{w:World}{Ad:Option Addr}{n c j:Nat}{l:List Po}(h:RdY OpR A w (.slice Ad n c) l)(hj:j<n):
 ∃b off d,Ad=some ⟨b,off,none⟩∧Hid (w.rangeAt b (off+j*4) (opA d).toList)∧Hid (l[j]?=some d):=by
 obtain⟨Ad',c',hv,_⟩:=h.shape
 simp only[Value.slice.injEq] at hv
 obtain⟨rfl,rfl,rfl⟩:=hv
 obtain⟨b,off,c,d,cs,hv,hd,hr,hl,hc⟩:=h.cells hj
 simp only[Value.slice.injEq] at hv
 obtain rfl:cs=(opA d).toList:=hr.out
 exact⟨b,off,d,hv.1,zh hc,hd⟩
theorem Zn5 {A:Nat→Prop}(v:Value)(l:List (ByteArray×List Po))(w:World)(h:RdY PqR A w v l):Calls Tryz.prog 17 #[v] w (Zsx w):=by
 have hiP:∀a b:Value,(Tryz.prog.info? 134).map (·.size)=some [a,b].length:=fun _ _=>by kernel_rfl
 have hiO:∀d:Po,(Tryz.prog.info? 107).map (·.size)=some (opA d).toList.length:=fun _=>by kernel_rfl
 obtain⟨Ad,c,rfl,hc1,hc2⟩:=h.shape
 have H:=zh (h.mono (B:=fun _=>True) fun _ _ _=>trivial)
 obtain⟨n,hn⟩:=zm (l.length)
 rw[hn] at H hc1⊢
 clear h hn
 go_enter Tryz.func17,Tryz.ntmps17
 go_wp2
 go_loopw [3,10] (fun s i wr=>∃ (m:Nat) (z:Int),m≤n∧i= .int .i64 m∧s= .int .i64 z∧Hid (Ext w wr)) (fun _ i _=>n - (intOf i).toNat)
 case atStart=>exact⟨0,0,Nat.zero_le _,rfl,rfl,zh (Ext.refl _)⟩
 case round=>
  obtain⟨m,z,hm,rfl,rfl,hE⟩:=hrel
  by_cases hlt:m<n
  ·obtain⟨b,off,nm,ops,A2,c2,rfl,HCELL,-,HR2⟩:=Zn4 (H.out.ext hE.out) hlt
   go_upto_region 5 with(refine wpList_load_mid rfl 134 _ rfl b (off+m*2) rfl [.string nm,.slice A2 ops.length c2] _ HCELL.out Tryz.underlying134 rfl (hiP _ _) ?_)
   obtain⟨W9,hW9⟩:=zn (wr.alloc (.cells #[.string nm,.slice A2 ops.length c2] 134))
   have E9:Ext wr W9:=by rw[hW9];exact(Ext.refl _).alloc _
   have P9:=zh (show Blk W9 wr.heap.size 134 #[.string nm,.slice A2 ops.length c2] by rw[hW9];exact Blk.new wr _ _)
   rw[←hW9]
   have hE9:=zh (hE.out.trans E9)
   have HR9:=zh (HR2.out.ext E9)
   have k0:=P9.out.cell 0
   have k1:=P9.out.cell 1
   simp only[zG] at k0 k1
   obtain⟨L2,hL2⟩:=zm (ops.length)
   rw[hL2] at HR9 k1⊢
   clear hW9 hE HCELL HR2 E9 P9 hL2
   go_cut [3] (fun s3 wx=>∃z2,s3= .int .i64 z2∧wx=W9)
   case first=>
    go_wp2
    go_meet
    exact⟨_,rfl,rfl⟩
   case rest=>
    obtain⟨z2,rfl,rfl⟩:=hcut
    clear k0
    go_wp2
    go_loopw [3,30] (fun s i wr=>∃ (j:Nat) (z:Int),j≤L2∧i= .int .i64 j∧s= .int .i64 z∧Hid (Ext wc wr)) (fun _ i _=>L2 - (intOf i).toNat)
    case atStart=>exact⟨0,z2,Nat.zero_le _,rfl,rfl,zh (Ext.refl _)⟩
    case round=>
     obtain⟨j,z3,hj,rfl,rfl,hF⟩:=hrel
     by_cases hjl:j<L2
     ·obtain⟨b2,off2,d,rfl,HC2,-⟩:=Zr1 (HR9.out.ext hF.out).y hjl
      go_upto_region 9 with(refine wpList_load_mid rfl 107 _ rfl b2 (off2+j*4) rfl (opA d).toList _ HC2.out Tryz.underlying107 rfl (hiO _) ?_)
      obtain⟨W8,hW8⟩:=zn (wr.alloc (.cells (opA d) 107))
      have E8:Ext wr W8:=by rw[hW8];exact(Ext.refl _).alloc _
      have P8:=zh (show Blk W8 wr.heap.size 107 (opA d) by rw[hW8];exact Blk.new wr _ _)
      rw[←hW8]
      have hF8:=zh (hF.out.trans E8)
      have k3:=P8.out.cell 3
      simp only[zG] at k3
      clear hW8 hF E8 P8 HC2
      go_cut [3] (fun s3 wx=>∃z2,s3= .int .i64 z2∧wx=W8)
      case first=>
       go_wp2
       go_meet
       exact⟨_,rfl,rfl⟩
      case rest=>
       obtain⟨z4,rfl,rfl⟩:=hcut
       clear k3
       by_cases h100:(100:Int)<j
       ·go_wp2
        go_ret
        exact⟨_,rfl,hE9.out.trans hF8.out⟩
       ·by_cases h5:(5000:Int)<z4
        ·go_wp2
         go_ret
         exact⟨_,rfl,hE9.out.trans hF8.out⟩
        ·go_wp2
         exact⟨⟨j+1,z4,by omega,by go_num,rfl,hF8⟩,by simp[intOf];omega⟩
     ·have hE0:=zh (hE9.out.trans hF.out)
      clear hE9 hF HR9
      by_cases h60:(60:Int)<m
      ·go_wp2
       go_ret
       exact⟨_,rfl,hE0.out⟩
      ·by_cases h5:(5000:Int)<z3
       ·go_wp2
        go_ret
        exact⟨_,rfl,hE0.out⟩
       ·go_wp2
        exact⟨⟨m+1,z3,by omega,by go_num,rfl,hE0⟩,by simp[intOf];omega⟩
  ·go_wp2
   go_ret
   exact⟨_,rfl,hE.out⟩
theorem Zqx:(Tryz.prog.info? 134).map (fun i=>(i.zero,i.size,i.bytes))=some (some (.agg #[.string ⟨#[]⟩,.slice none 0 0]),PqR.size,40):=by kernel_rfl
theorem Zn6:(Tryz.prog.info? 101).map (fun i=>(i.zero,i.size,i.bytes))=some (some (.agg #[.string ⟨#[]⟩,.slice none 0 0]),PqR.size,40):=by kernel_rfl
theorem Zqy:(Tryz.prog.info? 107).map (fun i=>(i.zero,i.size,i.bytes))=some (some (.agg #[.int .i64 0,.int .i64 0,.int .i64 0,.string ⟨#[]⟩]),OpR.size,40):=by kernel_rfl
theorem Zn7:(Tryz.prog.info? 108).map (fun i=>(i.zero,i.size,i.bytes))=some (some (.agg #[.int .i64 0,.int .i64 0,.int .i64 0,.string ⟨#[]⟩]),OpR.size,40):=by kernel_rfl
theorem Zr2 {A B:Nat→Prop}{w:World}{v:Value}{l:List Po}(h:RdY OpR A w v l):RdY OpR B w v l:=by
 obtain⟨us,hr,he,h2⟩:=h
 exact⟨us,hr,he,h2⟩
def ZlH (l:List (ByteArray×List Po)):Prop:=l.length*40≤140737488351232∧∀d∈l,d.2.length*40≤140737488351232
theorem ZoG (v:Value)(l:List (ByteArray×List Po))(w:World)(h:RdY PqR (fun _=>True) w v l)(hf:ZlH l):Calls Tryz.prog 13 #[v] w fun e w'=>∃u,e= .returned u∧RdY PqR (fun _=>True) w' u l∧Ext w w':=by
 have hiP:∀a b:Value,(Tryz.prog.info? 76).map (·.size)=some [a,b].length:=fun _ _=>by kernel_rfl
 obtain⟨Ad,c,rfl,hc1,hc2⟩:=h.shape
 have H:=zh h
 have HF:=zh hf
 obtain⟨n,hn⟩:=zm (l.length)
 rw[hn] at H hc1⊢
 have HN:=zh hn
 have hn40:n*40≤140737488351232:=by rw[←hn];exact hf.1
 clear h hn hf
 go_enter Tryz.func13,Tryz.ntmps13
 go_wp2
 go_loopw [3,8] (fun s i wr=>∃ (m:Nat),m≤n∧i= .int .i64 m∧Hid (OwnS PqR 134 w.heap.size (fun k=>w.heap.size≤k) wr s (l.take m))∧Hid (Ext w wr)) (fun _ i _=>n - (intOf i).toNat)
 case atStart=>exact⟨0,Nat.zero_le _,rfl,zh (OwnS.nil _ _ _ _ _),zh (Ext.refl _)⟩
 case round=>
  obtain⟨m,hm,rfl,HO,hE⟩:=hrel
  by_cases hlt:m<n
  ·obtain⟨b,off,nm,ops,A2,c2,rfl,HCELL,hd,HR2⟩:=Zn4 (H.out.ext hE.out) hlt
   have h40:=HF.out.2 (nm,ops) (List.mem_of_getElem? hd.out)
   dsimp only at h40
   have htk:(l.take m).length=m:=by rw[List.length_take,HN.out];omega
   obtain⟨Au,cu,rfl,-,-⟩:=HO.out.shape
   rw[htk] at HO⊢
   go_upto_region 5 with(refine wpList_load_mid rfl 76 _ rfl b (off+m*2) rfl [.string nm,.slice A2 ops.length c2] _ HCELL.out Tryz.underlying76 rfl (hiP _ _) ?_)
   obtain⟨W9,hW9⟩:=zn (wr.alloc (.cells #[.string nm,.slice A2 ops.length c2] 76))
   have E9:Ext wr W9:=by rw[hW9];exact(Ext.refl _).alloc _
   have P9:=zh (show Blk W9 wr.heap.size 76 #[.string nm,.slice A2 ops.length c2] by rw[hW9];exact Blk.new wr _ _)
   rw[←hW9]
   have hE9:=zh (hE.out.trans E9)
   have HR9:=zh (HR2.out.ext E9)
   have HO9:=zh (HO.out.ext E9)
   have k0:=P9.out.cell 0
   have k1:=P9.out.cell 1
   simp only[zG] at k0 k1
   obtain⟨L2,hL2⟩:=zm (ops.length)
   have HL2:=zh hL2
   rw[hL2] at HR9 k1 h40 P9⊢
   have hz0:=hE.out.size
   have hz9:=hE9.out.size
   have hoR:=zh HO9.out.row
   clear hW9 hE HCELL HR2 E9 hL2 HO
   obtain⟨n9,hn9⟩:=zm (wr.heap.size)
   have hn0:¬(Value.slice Au m cu).ownBlock=some n9:=fun h9=>by have:=(hoR.out n9 h9).2;have:=Zai HO9.out P9.out (by decide);rw[hn9] at this;exact this h9
   rw[hn9] at P9⊢
   rw[hn9] at k0 k1
   have hnl:=P9.out.lt
   clear hn9
   refine zg (fun w'=>Kb.Mod (fun k=>(Value.slice Au m cu).ownBlock=some k) W9 w') (Mod.of_ext (Ext.drew (Ext.refl _))) fun hHeld=>?_
   obtain⟨D,hD⟩:=zn (W9.drew)
   have ED:Ext W9 D:=by rw[hD];exact(Ext.refl _).drew
   rw[←hD] at hHeld⊢
   clear hD
   refine zr 0 ?_
   refine zr 1 ?_
   (refine zu 2 (fun _ h=>(h.cell n9 0 hnl hn0).trans k0) ?_)
   refine zr 4 ?_
   (refine zu 5 (fun _ h=>(h.cell n9 1 hnl hn0).trans k1) ?_)
   refine zw 3 fun K hK=>?_
   go_simp
   have BL:=zh (Blk.new D 107 #[])
   have EL:=zh (ED.trans ((Ext.refl D).alloc (.cells #[] 107)))
   refine zo hK (Mod.of_ext EL.out) fun hHeld=>?_
   clear hK K
   have hzL:W9.heap.size≤D.heap.size:=ED.size
   generalize D.alloc (.cells #[] 107)=u4 at*
   generalize D.heap.size=nL at*
   have hnL:=BL.out.lt
   clear ED
   refine zw 6 fun K hK=>?_
   refine ZaX (e:=OpR) (base:=nL) (B:=fun _=>False) (A:=fun _=>False) rfl (.tmp 15) (.tmp 17) rfl Tryz.underlying74 Zqy rfl (OwnS.emptyB OpR _ BL.out (Nat.le_refl _)) rfl (Zr2 (HR9.out.ext EL.out).y) rfl (fun _ _ h=>h.elim) (N:=L2) (by rw[HL2.out];simp) (by unfold maxLen;omega) (by omega) (by omega) ?_
   intro A3 c3 u5 o5 M5 _
   rw[List.nil_append] at o5
   have E5:=zh (Mod.toExt EL.out M5 (fun k hk he=>by have h9:some nL=some k:=he;have:=Option.some.inj h9;omega))
   have O5:=zh o5
   refine hK.out _ _ (Mod.of_ext E5.out) (fun hHeld=>?_)
   clear hK K o5 M5 BL EL
   (try simp only[zP])
   refine zr 7 ?_
   refine zw 8 fun K hK=>?_
   go_simp
   have BY:=zh (Blk.new u5 134 #[.string nm,.slice A3 L2 c3])
   have EY:=zh (E5.out.trans ((Ext.refl u5).alloc (.cells #[.string nm,.slice A3 L2 c3] 134)))
   have O6:=zh (O5.out.alloc (.cells #[.string nm,.slice A3 L2 c3] 134))
   refine zo hK (Mod.of_ext EY.out) fun hHeld=>?_
   clear hK K
   generalize u5.alloc (.cells #[.string nm,.slice A3 L2 c3] 134)=u6 at*
   generalize u5.heap.size=nY at*
   have hz6:=EY.out.size
   have HOY:=zh (HO9.out.ext EY.out)
   refine zw 9 fun K hK=>?_
   refine ZaX (e:=PqR) (base:=w.heap.size) (B:=fun k=>w.heap.size≤k) (A:=fun k=>nL≤k) rfl (.tmp 12) (.tmp 20) rfl Tryz.underlying54 Zqx rfl HOY.out rfl (RdY.singleB (e:=PqR) (cs:=[.string nm,.slice A3 L2 c3]) (d:=(nm,ops)) ⟨_,rfl,O6.out.rd (A:=fun k=>nL≤k) (fun k hk=>hk) (fun _ hk=>hk.elim)⟩ BY.out) rfl (fun k _ hk=>⟨by omega,fun he=>by have:=(hoR.out k he).2;omega⟩) (N:=m+1) (by rw[htk];rfl) (by unfold maxLen;omega) (by omega) (by omega) ?_
   intro A9 c9 u9 o9 M9 _
   have M69:=(Mod.of_ext (S:=fun k=>(Value.slice Au m cu).ownBlock=some k) EY.out).trans M9
   refine zo hK M69 fun hHeld=>?_
   clear hK K
   have O9:=zh o9
   have E99:=zh (Mod.toExt hE9.out M69 (fun k hk he=>by have:=(hoR.out k he).1;omega))
   clear M69 M9 o9
   refine zr 10 ?_
   refine zd ?_
   clear hHeld
   go_wp2
   exact⟨⟨m+1,by omega,by go_num,by rw[List.take_add_one,hd.out];simpa using O9,E99⟩,by simp[intOf];omega⟩
  ·obtain rfl:m=n:=by omega
   rw[List.take_of_length_le (by rw[HN.out];exact Nat.le_refl _)] at HO
   go_wp2
   go_ret
   exact⟨_,rfl,HO.out.rdT.y,hE.out⟩
theorem Zr3 (v:Value)(l:List (ByteArray×List Po))(w:World)(h:RdY PqR (fun _=>True) w v l)(hf:ZlH l):Calls Tryz.prog 8 #[v] w fun e w'=>∃u,e= .returned u∧RdY PqR (fun _=>True) w' u l∧Ext w w':=by
 have hiP:∀a b:Value,(Tryz.prog.info? 76).map (·.size)=some [a,b].length:=fun _ _=>by kernel_rfl
 have hiX:=zi Tryz.prog 101 2
 have hiO:∀d:Po,(Tryz.prog.info? 107).map (·.size)=some (opA d).toList.length:=fun _=>by kernel_rfl
 have hiO2:=zi Tryz.prog 107 4
 obtain⟨Ad,c,rfl,hc1,hc2⟩:=h.shape
 have H:=zh h
 have HF:=zh hf
 obtain⟨n,hn⟩:=zm (l.length)
 rw[hn] at H hc1⊢
 have HN:=zh hn
 have hn40:n*40≤140737488351232:=by rw[←hn];exact hf.1
 clear h hn hf
 go_enter Tryz.func8,Tryz.ntmps8
 go_wp2
 go_loopw [3,11] (fun s i wr=>∃ (m:Nat),m≤n∧i= .int .i64 m∧Hid (OwnS PqR 101 w.heap.size (fun k=>w.heap.size≤k) wr s (l.take m))∧Hid (Ext w wr)) (fun _ i _=>n - (intOf i).toNat)
 case atStart=>exact⟨0,Nat.zero_le _,rfl,zh (OwnS.nil _ _ _ _ _),zh (Ext.refl _)⟩
 case round=>
  obtain⟨m,hm,rfl,HO,hE⟩:=hrel
  by_cases hlt:m<n
  ·obtain⟨b,off,nm,ops,A2,c2,rfl,HCELL,hd,HR2⟩:=Zn4 (H.out.ext hE.out) hlt
   have h40:=HF.out.2 (nm,ops) (List.mem_of_getElem? hd.out)
   dsimp only at h40
   have htk:(l.take m).length=m:=by rw[List.length_take,HN.out];omega
   obtain⟨Au,cu,rfl,-,-⟩:=HO.out.shape
   rw[htk] at HO⊢
   obtain⟨wq,hwq⟩:=zn (wr)
   go_upto_region 5 with(refine wpList_load_mid rfl 76 _ rfl b (off+m*2) rfl [.string nm,.slice A2 ops.length c2] _ HCELL.out Tryz.underlying76 rfl (hiP _ _) ?_)
   obtain⟨W9,hW9⟩:=zn (wr.alloc (.cells #[.string nm,.slice A2 ops.length c2] 76))
   have E9:Ext wr W9:=by rw[hW9];exact(Ext.refl _).alloc _
   have P9:=zh (show Blk W9 wr.heap.size 76 #[.string nm,.slice A2 ops.length c2] by rw[hW9];exact Blk.new wr _ _)
   rw[←hW9]
   obtain⟨n9,hn9⟩:=zm (wr.heap.size)
   rw[hn9] at P9⊢
   have k0:=P9.out.cell 0
   simp only[List.getElem?_toArray,List.getElem?_cons_zero] at k0
   clear hW9
   go_upto_region 6 with fail
   obtain⟨WX,hWX⟩:=zn (W9.alloc (.cells #[.string nm,.slice none 0 0] 101))
   have EX:Ext W9 WX:=by rw[hWX];exact(Ext.refl _).alloc _
   have PX:=zh (show Blk WX W9.heap.size 101 #[.string nm,.slice none 0 0] by rw[hWX];exact Blk.new W9 _ _)
   rw[←hWX]
   obtain⟨xb,hxb⟩:=zm (W9.heap.size)
   rw[hxb] at PX⊢
   have hz9:=E9.size
   have hzx:n9<xb:=by have:=P9.out.lt;omega
   have k1:=(P9.out.ext EX).cell 1
   simp only[zG] at k1
   have hEX:=zh ((hE.out.trans E9).trans EX)
   have HRX:=zh (((HR2.out.lt.mono (B:=fun k=>k<n9) (fun k _ hk=>by have:=hk.2;omega)).ext E9).ext EX)
   have HOX:=zh (((HO.out.mono (B:=fun k=>w.heap.size≤k∧k<n9) (fun k hk h9=>⟨h9,by omega⟩)).ext E9).ext EX)
   have hoR:=zh (show ∀k,(Value.slice Au m cu).ownBlock=some k→w.heap.size≤k∧k<n9 from fun k hk=>by have:=HO.out.row k hk;omega)
   have hzw:w.heap.size≤n9:=by have:=hE.out.size;omega
   obtain⟨L2,hL2⟩:=zm (ops.length)
   have HL2:=zh hL2
   rw[hL2] at HRX k1 h40⊢
   have hxl:=PX.out.lt
   obtain⟨nX,hnX⟩:=zm (WX.heap.size)
   rw[hnX] at hxl
   have HNX:=zh hnX
   clear hWX hE HCELL HR2 E9 hL2 HO EX P9 k0 hn9 hxb hwq hnX
   go_wp2
   go_loopw [21] (fun i wr=>∃ (j:Nat) (Av:Option Addr) (cv:Nat),j≤L2∧i= .int .i64 j∧Hid (Blk wr xb 101 #[.string nm,.slice Av j cv])∧Hid (OwnS OpR 108 nX (fun _=>False) wr (.slice Av j cv) (ops.take j))∧Hid (Mod (fun k=>k=xb) WX wr)) (fun i _=>L2 - (intOf i).toNat)
   case atStart=>exact⟨0,none,0,Nat.zero_le _,rfl,PX,zh (OwnS.nil _ _ _ _ _),zh (Mod.refl _ _)⟩
   case round=>
    clear PX
    obtain⟨j,Av,cv,hj,rfl,HX,HP,HM⟩:=hrel
    by_cases hjl:j<L2
    ·have HRr:=HRX.out.mod HM.out (fun k _ hk he=>by omega)
     obtain⟨b2,off2,d,rfl,HC2,hd2⟩:=Zr1 HRr.y hjl
     go_upto_region 9 with(refine wpList_load_mid rfl 107 _ rfl b2 (off2+j*4) rfl (opA d).toList _ HC2.out Tryz.underlying107 rfl (hiO _) ?_)
     obtain⟨W8,hW8⟩:=zn (wr.alloc (.cells (opA d) 107))
     have E8:Ext wr W8:=by rw[hW8];exact(Ext.refl _).alloc _
     have P8:=zh (show Blk W8 wr.heap.size 107 (opA d) by rw[hW8];exact Blk.new wr _ _)
     rw[←hW8]
     have HX8:=zh (HX.out.ext E8)
     have HP8:=zh (HP.out.ext E8)
     have HM8:=zh (HM.out.ext E8)
     have htj:(ops.take j).length=j:=by rw[List.length_take,HL2.out];omega
     have q1:=HX8.out.cell 1
     simp only[zG] at q1
     have hxo:¬(Value.slice Av j cv).ownBlock=some xb:=Zai HP8.out HX8.out (by decide)
     have hz8:=HM8.out.size
     have hnX:=HNX.out
     clear hW8 HX HP HM HC2 HRr E8
     go_wp2_with(first
      |(refine wpList_load_row rfl 107 _ rfl _ rfl 107 _ _ _ P8.out Tryz.underlying107 rfl hiO2 ?_)
      |(at_builtin;refine wpList_app (e:=OpR) (base:=nX) (B:=fun _=>False) (A:=fun _=>False) rfl (.tmp 26) (.tmp 28) rfl Tryz.underlying99 Zn7 rfl (HP8.out.alloc _) rfl (RdY.singleB (e:=OpR) (cs:=(opA d).toList) (d:=d) rfl (Blk.new _ _ _)) rfl (fun _ _ h=>h.elim) (N:=j+1) (by rw[htj];rfl) (by unfold maxLen;omega) (by omega) (by simp;omega) ?_;intro A9 c9 w9 o9 M9 _;have HX9:=zh ((HX8.out.alloc (.cells (opA d) 108)).mod M9 hxo);have q9:=HX9.out.cell 1;have f9:=HX9.out.frozen 1;simp only[zG] at q9))
     have M7:Kb.Mod (fun k=>k=xb) w9 (w9.setCell ⟨xb,1,none⟩ (.slice A9 (j+1) c9)):=(Mod.refl _ _).set1 _
     have hx9:¬(Value.slice A9 (j+1) c9).ownBlock=some xb:=Zai o9 HX9.out (by decide)
     have HM9:=zh (Mod.transN (HM8.out.alloc (.cells (opA d) 108)) M9 (fun i hi hT=>by have:=(HP8.out.row i hT).1;omega))
     refine⟨⟨j+1,A9,c9,by omega,by go_num,zh (by simpa using HX9.out.set_ 1 (.slice A9 (j+1) c9)),zh ?_,zh (HM9.out.trans M7)⟩,by simp[intOf];omega⟩
     rw[List.take_add_one,hd2.out]
     exact o9.mod M7 (fun k hk he=>hx9 (by rw[hk,he])) (fun k _ hk=>hk.elim)
    ·obtain rfl:j=L2:=by omega
     rw[List.take_of_length_le (by rw[HL2.out];exact Nat.le_refl _)] at HP
     have HO1:=zh ((HOX.out.mod HM.out (fun k hk he=>by have:=hoR.out k hk;omega) (fun k _ hk he=>by omega)).mono (B:=fun k=>w.heap.size≤k) (fun k _ hk=>hk.1))
     have E1:=zh (Mod.toExt hEX.out HM.out (fun k hk he=>by omega))
     have hnX:=HNX.out
     have hzr:=HM.out.size
     have HPR:=zh (HP.out.rd (A:=fun k=>nX≤k) (fun k hk=>hk) (fun _ hk=>hk.elim))
     clear HM HRX HOX hEX HP
     go_wp2_with(first
      |(refine wpList_load_row rfl 101 _ rfl _ rfl 101 _ _ _ HX.out Tryz.underlying101 rfl hiX ?_)
      |(at_builtin;refine wpList_app (e:=PqR) (base:=w.heap.size) (B:=fun k=>w.heap.size≤k) (A:=fun k=>nX≤k) rfl (.tmp 32) (.tmp 34) rfl Tryz.underlying28 Zn6 rfl (HO1.out.alloc _) rfl (RdY.singleB (e:=PqR) (cs:=[.string nm,.slice Av j cv]) (d:=(nm,ops)) ⟨_,rfl,HPR.out.alloc _⟩ (Blk.new _ _ _)) rfl (fun k _ hk=>⟨by omega,fun he=>by have:=hoR.out k he;omega⟩) (N:=m+1) (by rw[htk];rfl) (by unfold maxLen;omega) (by omega) (by simp;omega) ?_;intro A9 c9 w9 o9 M9 _))
     have O9:=zh o9
     have E9:=zh (Mod.toExt (E1.out.alloc (.cells #[.string nm,.slice Av j cv] 101)) M9 (fun k hk he=>by have:=(hoR.out k he).1;omega))
     exact⟨⟨m+1,by omega,by go_num,by rw[List.take_add_one,hd.out];simpa using O9,E9⟩,by simp[intOf];omega⟩
  ·obtain rfl:m=n:=by omega
   rw[List.take_of_length_le (by rw[HN.out];exact Nat.le_refl _)] at HO
   go_wp2
   go_ret
   exact⟨_,rfl,HO.out.rdT.y,hE.out⟩
theorem Zb2 {s:ByteArray}{least:Int}(h:Zay s least=0):least≤(s.size:Int)∧s.size≤64∧∀c∈bsL s,33≤c∧c≤126:=by
 apply Classical.byContradiction
 intro hn
 rw[ZbX hn] at h
 cases h
theorem Zn8 {s:ByteArray}(h:Zcv s=false):∀c∈bsL s,c≠61:=by
 intro c hc
 unfold Zcv at h
 rw[decide_eq_false_iff_not] at h
 have h1:Go.Lib.indexByte s.data.toList 61= -1:=by have:=Go.Lib.indexByte_ge s.data.toList 61;omega
 unfold bsL at hc
 obtain⟨x,hx,rfl⟩:=List.mem_map.1 hc
 obtain⟨j,hj,hjx⟩:=List.getElem_of_mem hx
 intro h9
 have h2:x=61:=UInt8.toNat_inj.1 (by have:(x.toNat:Int)=61:=h9;simpa using(by omega:x.toNat=61))
 exact Go.Lib.indexByte_none h1 j (by rw[List.getElem?_eq_getElem hj,hjx,h2])
theorem Ze8 (s:ByteArray)(least but:Int)(w:World)(h1:least≤(s.size:Int))(h2:s.size≤64)(h3:∀c∈bsL s,33≤c∧c≤126∧c≠but):Calls Tryz.prog 134 #[.string s,.int .i64 least,.int .u8 but] w fun e w'=>e= .returned (.bool true)∧Ext w w':=by
 have HIX:=zh (ZhW s)
 have HC:=zh h3
 have h4:¬(s.size:Int)<least:=by omega
 have h5:¬(64:Int)<(s.size:Int):=by omega
 clear h1 h2 h3
 go_enter Tryz.func134,Tryz.ntmps134
 go_wp2_with(refine wpList_openG rfl rfl ?_)
 go_loopw [7] (fun i wr=>∃m:Nat,m≤s.size∧i= .int .i64 m∧Hid (Ext w wr)) (fun i _=>s.size - (intOf i).toNat)
 case atStart=>exact⟨0,Nat.zero_le _,rfl,zh (Ext.refl _)⟩
 case round=>
  obtain⟨m,hm,rfl,hE⟩:=hrel
  by_cases hmn:m<s.size
  ·obtain⟨c,hc,hix⟩:=HIX.out m hmn
   have hmi:(m:Int)<(s.size:Int):=by omega
   obtain⟨d1,d2,d3⟩:=HC.out c (List.mem_of_getElem? hc.out)
   have c1:¬c<33:=by omega
   have c2:¬126<c:=by omega
   have c3:¬c=but:=d3
   clear d1 d2 d3
   go_wp2_with(refine wpList_openG rfl rfl ?_)
   go_roundw
   case rel=>exact⟨m+1,by omega,by go_num,hE⟩
   case measure=>simp[intOf];omega
  ·obtain rfl:m=s.size:=by omega
   go_wp2
   go_ret
   exact⟨rfl,hE.out⟩
theorem ZeC {s:ByteArray}{least:Int}(w:World)(h:Zay s least=0):Calls Tryz.prog 134 #[.string s,.int .i64 least,.int .u8 0] w fun e w'=>e= .returned (.bool true)∧Ext w w':=
 Ze8 s least 0 w (Zb2 h).1 (Zb2 h).2.1 (fun c hc=>by have:=(Zb2 h).2.2 c hc;omega)
theorem Zqz {s:ByteArray}{least:Int}(w:World)(h:Zay s least=0)(h2:Zcv s=false):Calls Tryz.prog 134 #[.string s,.int .i64 least,.int .u8 61] w fun e w'=>e= .returned (.bool true)∧Ext w w':=
 Ze8 s least 61 w (Zb2 h).1 (Zb2 h).2.1 (fun c hc=>by have:=(Zb2 h).2.2 c hc;have:=Zn8 h2 c hc;omega)
theorem ZfL {n:Int}(h:ZaP n=0):¬1024<n:=by
 unfold ZaP at h
 intro h9
 rw[if_pos h9] at h
 cases h
theorem ZjM (r:Rq)(A:Option Addr)(c:Nat)(k:Nat)(w:World)(hk:r.k=(k:Int))(h1:1≤k)(h10:k≤10)(ha:Zbe r=0):Calls Tryz.prog 64 #[.agg (rqA r (.slice A r.mo.length c))] w fun e w'=>e= .returned (.int .i64 0)∧Ext w w':=by
 obtain⟨rk,tx,vl,la,c1,c2,c3,c4,mo,on,co⟩:=r
 dsimp only at hk⊢
 subst hk
 unfold Zbe at ha
 dsimp only at ha
 obtain⟨M,hM⟩:=zm (mo.length)
 rw[hM] at ha⊢
 clear hM
 rcases k with _|_|_|_|_|_|_|_|_|_|_|k
 ·omega
 ·have hq:Zax [Zay tx 0,ZaP (M:Int)]=0:=by simpa using ha
  obtain⟨q1,q2⟩:=Zgj hq
  have Q1:=zh (fun w'=>ZeC w' q1)
  have Q2:=ZfL q2
  clear ha hq q1 q2
  obtain⟨W1,hW1⟩:=zn (w.alloc (.cells (rqA ⟨1,tx,vl,la,c1,c2,c3,c4,mo,on,co⟩ (.slice A M c)) 46))
  have EW:Ext w W1:=by rw[hW1];exact(Ext.refl _).alloc _
  have B1:=zh (show Blk W1 w.heap.size 46 (rqA ⟨1,tx,vl,la,c1,c2,c3,c4,mo,on,co⟩ (.slice A M c)) by rw[hW1];exact Blk.new _ _ _)
  have HW1:=zh hW1
  clear hW1
  have q0:=B1.out.cell 0
  have q1:=B1.out.cell 1
  simp only[zG] at q0 q1
  go_enter Tryz.func64,Tryz.ntmps64
  go_upto_region 1 with fail
  rw[←HW1.out]
  clear HW1
  go_wp2_with fail
  refine(Q1.out _).mono ?_
  rintro e w1 ⟨rfl,E1⟩
  have q9:=(B1.out.ext E1).cell 8
  have EE:=EW.trans E1
  simp only[zG] at q9
  go_wp2
  go_ret
  exact⟨rfl,EE⟩
 ·have hq:(if Zcv tx=true then 4 else Zax [Zay tx 1,ZaP (vl.size:Int)])=0:=by simpa using ha
  have hne:Zcv tx=false:=by
   cases h9:Zcv tx with
   |false=>rfl
   |true=>rw[if_pos h9] at hq;cases hq
  rw[if_neg (by rw[hne];decide)] at hq
  obtain⟨q1,q2⟩:=Zgj hq
  have Q1:=zh (fun w'=>Zqz w' q1 hne)
  have Q2:=ZfL q2
  clear ha hq q1 q2 hne
  obtain⟨W1,hW1⟩:=zn (w.alloc (.cells (rqA ⟨2,tx,vl,la,c1,c2,c3,c4,mo,on,co⟩ (.slice A M c)) 46))
  have EW:Ext w W1:=by rw[hW1];exact(Ext.refl _).alloc _
  have B1:=zh (show Blk W1 w.heap.size 46 (rqA ⟨2,tx,vl,la,c1,c2,c3,c4,mo,on,co⟩ (.slice A M c)) by rw[hW1];exact Blk.new _ _ _)
  have HW1:=zh hW1
  clear hW1
  have q0:=B1.out.cell 0
  have q1:=B1.out.cell 1
  simp only[zG] at q0 q1
  go_enter Tryz.func64,Tryz.ntmps64
  go_upto_region 1 with fail
  rw[←HW1.out]
  clear HW1
  go_wp2_with fail
  refine(Q1.out _).mono ?_
  rintro e w1 ⟨rfl,E1⟩
  have q9:=(B1.out.ext E1).cell 2
  have EE:=EW.trans E1
  simp only[zG] at q9
  go_wp2
  go_ret
  exact⟨rfl,EE⟩
 ·clear ha
  go_enter Tryz.func64,Tryz.ntmps64
  go_wp2
  go_ret
  exact⟨rfl,zX⟩
 ·have hq:ZaP (tx.size:Int)=0:=by simpa using ha
  have Q2:=ZfL hq
  clear ha hq
  go_enter Tryz.func64,Tryz.ntmps64
  go_wp2
  go_ret
  exact⟨rfl,zX⟩
 ·have hq:Zay tx 1=0:=by simpa using ha
  have Q1:=zh (fun w'=>ZeC w' hq)
  clear ha hq
  go_enter Tryz.func64,Tryz.ntmps64
  go_wp2_with fail
  refine(Q1.out _).mono ?_
  rintro e w1 ⟨rfl,E1⟩
  go_wp2
  go_ret
  exact⟨rfl,zX⟩
 ·clear ha
  go_enter Tryz.func64,Tryz.ntmps64
  go_wp2
  go_ret
  exact⟨rfl,zX⟩
 ·clear ha
  go_enter Tryz.func64,Tryz.ntmps64
  go_wp2
  go_ret
  exact⟨rfl,zX⟩
 ·have hq:Zay tx 1=0:=by simpa using ha
  have Q1:=zh (fun w'=>ZeC w' hq)
  clear ha hq
  go_enter Tryz.func64,Tryz.ntmps64
  go_wp2_with fail
  refine(Q1.out _).mono ?_
  rintro e w1 ⟨rfl,E1⟩
  go_wp2
  go_ret
  exact⟨rfl,zX⟩
 ·clear ha
  go_enter Tryz.func64,Tryz.ntmps64
  go_wp2
  go_ret
  exact⟨rfl,zX⟩
 ·have hq:Zax [Zay tx 1,Zay la 0,ZaP (vl.size:Int)]=0:=by simpa using ha
  obtain⟨q1,q3,q2⟩:=Zos hq
  have Q1:=zh (fun w'=>ZeC w' q1)
  have Q3:=zh (fun w'=>ZeC w' q3)
  have Q2:=ZfL q2
  clear ha hq q1 q2 q3
  obtain⟨W1,hW1⟩:=zn (w.alloc (.cells (rqA ⟨10,tx,vl,la,c1,c2,c3,c4,mo,on,co⟩ (.slice A M c)) 46))
  have EW:Ext w W1:=by rw[hW1];exact(Ext.refl _).alloc _
  have B1:=zh (show Blk W1 w.heap.size 46 (rqA ⟨10,tx,vl,la,c1,c2,c3,c4,mo,on,co⟩ (.slice A M c)) by rw[hW1];exact Blk.new _ _ _)
  have HW1:=zh hW1
  clear hW1
  have q0:=B1.out.cell 0
  have q1:=B1.out.cell 1
  simp only[zG] at q0 q1
  go_enter Tryz.func64,Tryz.ntmps64
  go_upto_region 1 with fail
  rw[←HW1.out]
  clear HW1
  go_wp2_with fail
  refine(Q1.out _).mono ?_
  rintro e w1 ⟨rfl,E1⟩
  have q3:=(B1.out.ext E1).cell 3
  simp only[zG] at q3
  go_wp2_with(first|(refine wpList_openG rfl rfl ?_)|fail)
  refine(Q3.out _).mono ?_
  rintro e w2 ⟨rfl,E2⟩
  have q9:=(B1.out.ext (E1.trans E2)).cell 2
  have EE:=EW.trans (E1.trans E2)
  simp only[zG] at q9
  go_wp2
  go_ret
  exact⟨rfl,EE⟩
 ·omega
end Go.Proofs.YtmmhcllibpmfnaaGreatDoor
