/- Parts EB28 EC28 ED28 EE28 WB28 WC28 YA28 QD28. No condition. -/
import Derived.Test.YtmmhcllibpmfnaaGreatDoorYB02
import Derived.Test.YtmmhcllibpmfnaaGreatDoorYB03
import Derived.Test.YtmmhcllibpmfnaaGreatDoorYB04
import Derived.Test.YtmmhcllibpmfnaaGreatDoorYB12
import Derived.Test.YtmmhcllibpmfnaaGreatDoorRows
set_option maxRecDepth 100000
set_option maxHeartbeats 8000000
namespace Go.Proofs.YtmmhcllibpmfnaaGreatDoor
open Go.RowKit Go.Kb
structure SortD (x:ByteArray)(sh:Int)(f:Nat):Prop where
 bd:sh=0∨sh=1∨sh=2∨sh=3
 enters:∀args w,(callFunc f args).run Tryz.prog w= .ok (.enter f args) w
 calls:∀ (a n:Int) (o:Po),ZgK f #[.agg (plA a n),.agg (opA o)]
theorem ZnV {k:Int}(h:1≤k∧k≤16):∃x sh f,SortD x sh f∧∀w,(Instr.index 246 (.agg ZaH) (.int .i64 k)).run Tryz.prog w= .ok (.agg (srt x sh f).toArray) w:=by
 obtain⟨n,rfl⟩:=Int.eq_ofNat_of_zero_le (show 0≤k by omega)
 obtain⟨h1,h2⟩:=h
 have hn:n=1∨n=2∨n=3∨n=4∨n=5∨n=6∨n=7∨n=8∨n=9∨n=10∨n=11∨n=12∨n=13∨n=14∨n=15∨n=16:=by omega
 rcases hn with rfl|rfl|rfl|rfl|rfl|rfl|rfl|rfl|rfl|rfl|rfl|rfl|rfl|rfl|rfl|rfl
 ·exact⟨_,_,_,⟨by decide,Zng,ZsO⟩,Zsy⟩
 ·exact⟨_,_,_,⟨by decide,Zgt,ZoA⟩,Zsz⟩
 ·exact⟨_,_,_,⟨by decide,Zgt,ZoA⟩,ZsA⟩
 ·exact⟨_,_,_,⟨by decide,ZkR,ZrR⟩,ZsB⟩
 ·exact⟨_,_,_,⟨by decide,Zgs,ZoB⟩,ZsC⟩
 ·exact⟨_,_,_,⟨by decide,Zgs,ZoB⟩,ZsD⟩
 ·exact⟨_,_,_,⟨by decide,ZkS,ZrS⟩,ZsE⟩
 ·exact⟨_,_,_,⟨by decide,Zjs,Zqm⟩,ZsF⟩
 ·exact⟨_,_,_,⟨by decide,ZkT,ZrT⟩,ZsG⟩
 ·exact⟨_,_,_,⟨by decide,ZkQ,dany⟩,Zrk⟩
 ·exact⟨_,_,_,⟨by decide,Zjr,Zql⟩,Zrl⟩
 ·exact⟨_,_,_,⟨by decide,ZpV,dact⟩,Zrm⟩
 ·exact⟨_,_,_,⟨by decide,Znh,ZsQ⟩,Zrn⟩
 ·exact⟨_,_,_,⟨by decide,Znj,ZsP⟩,Zro⟩
 ·exact⟨_,_,_,⟨by decide,Zni,ZsR⟩,Zrp⟩
 ·exact⟨_,_,_,⟨by decide,ZkQ,dany⟩,Zrq⟩
def Zbo (sh oa ob:Int)(te q:Bool):Bool:=if sh≠3∧te=false then false else if sh≠2∧ob≠0 then false else if sh≠2∧sh≠1∧oa≠0 then false else q
theorem ZgL (o:Po)(a n:Int):ZgK 59 #[.agg (opA o),.int .i64 a,.int .i64 n]:=by
 by_cases hk:1≤o.k∧o.k≤16
 ·have HWI:=zh (show ∀w',Calls Tryz.prog 26 #[.int .i64 o.k,.int .i64 1,.int .i64 16] w' fun e w''=>e= .returned (.bool true)∧Ext w' w'' from fun w'=>by
   have h9:=Zaz o.k 1 16 w'
   rw[decide_eq_true hk] at h9
   exact h9)
  obtain⟨x,sh,f,hok,hix⟩:=ZnV hk
  obtain⟨qc,hqc⟩:=hok.calls a n o
  have HQC:=zh hqc
  refine⟨Zbo sh o.a o.b o.tx.toList.isEmpty qc,fun w=>?_⟩
  obtain⟨W1,hW1⟩:=zn (w.alloc (.cells (opA o) 108))
  have E1:Ext w W1:=by rw[hW1];exact(Ext.refl _).alloc _
  have B1:=zh (show Blk W1 w.heap.size 108 (opA o) by rw[hW1];exact Blk.new _ _ _)
  have HW1:=zh hW1
  have hiO:=zi Tryz.prog 108 4
  clear hW1
  have HIX:=hix
  have HOK:=zh hok
  clear hok hix hk hqc
  go_enter Tryz.func59,Tryz.ntmps59
  go_upto_region 1 with fail
  rw[←HW1.out]
  clear HW1
  have k0:=B1.out.cell 0
  simp only[List.getElem?_toArray,List.getElem?_cons_zero] at k0
  go_wp2_with fail
  refine(HWI.out _).mono ?_
  rintro e w2 ⟨rfl,E2⟩
  have B1:=zh (B1.out.ext E2)
  have k0:=B1.out.cell 0
  simp only[List.getElem?_toArray,List.getElem?_cons_zero] at k0
  go_upto_region 3 with fail
  have hiS:=zi Tryz.prog 245 3
  have hone:(srt x sh f).toArray.all (·.oneCell')=true:=by simp[Value.oneCell']
  go_cut [7] (fun s7 wx=>∃n7:Nat,s7= .pointer (some ⟨n7,0,none⟩)∧w2.heap.size≤n7∧Hid (Blk wx n7 245 (srt x sh f).toArray)∧Ext w2 wx)
  case first=>
   refine zg (fun w'=>Ext w2 w') (Ext.drew (Ext.refl _)) fun hHeld=>?_
   have EH:Ext w2 w2.drew:=Ext.drew (Ext.refl _)
   generalize w2.drew=D at*
   refine zr 1 ?_
   refine zv 2 k0 ?_
   clear hHeld
   refine wpAnyH_ready (rs:=[0,4]) (by kernel_rfl) (by simp) ?_
   refine(AllReadyH.cons rfl (fun K hK=>?_) (AllReadyH.cons rfl (fun K hK=>?_) AllReadyH.nil))
   ·
    go_simp
    go_at_call 105
    refine(Ze3 D).mono ?_
    rintro e w20 ⟨rfl,E3⟩
    (try dsimp only)
    refine zo hK (EH.trans E3) fun hHeld=>?_
    clear hK K hHeld
    have EH:=EH.trans E3
    clear E3
    have hHeld:Ext w2 w20:=EH
    (refine zu 3 (fun w' h=>HIX w') ?_)
    clear hHeld
    refine wpAnyH_ready (rs:=[4]) (by kernel_rfl) (by simp) ?_
    refine(AllReadyH.cons rfl (fun K hK=>?_) AllReadyH.nil)
    go_simp
    refine zo hK (EH.alloc _) fun hHeld=>?_
    clear hK K hHeld
    have B7:=zh (Blk.new w20 245 #[.string ⟨#[]⟩,.int .i64 0,Value.nilFunc])
    obtain⟨n7,hn7⟩:=zm (w20.heap.size)
    have hn7W:w2.heap.size≤n7:=by rw[←hn7];exact EH.size
    have EH:=EH.alloc (.cells #[.string ⟨#[]⟩,.int .i64 0,Value.nilFunc] 245)
    rw[hn7] at B7⊢
    clear hn7
    generalize w20.alloc _=w21 at*
    have LB7:=B7.out.lt
    have hHeld:Ext w2 w21:=EH
    (refine zw 5 fun K hK=>?_;rw[if_pos (by rfl)];refine Zag 245 _ _ rfl (n7) _ rfl rfl 245 _ B7.out hiS (by rfl) hone ?_;intro u4 B8 M8;refine zo hK (Mod.toExt hHeld M8 (fun k hk he=>by omega)) fun hHeld=>?_;clear hK K)
    refine zd ?_
    go_wp2_with fail
    go_meet
    exact⟨n7,rfl,hn7W,zh B8,hHeld⟩
   ·
    go_simp
    refine zo hK (EH.alloc _) fun hHeld=>?_
    clear hK K hHeld
    have B7:=zh (Blk.new D 245 #[.string ⟨#[]⟩,.int .i64 0,Value.nilFunc])
    obtain⟨n7,hn7⟩:=zm (D.heap.size)
    have hn7W:w2.heap.size≤n7:=by rw[←hn7];exact EH.size
    have EH:=EH.alloc (.cells #[.string ⟨#[]⟩,.int .i64 0,Value.nilFunc] 245)
    rw[hn7] at B7⊢
    clear hn7
    generalize D.alloc _=w20 at*
    have LB7:=B7.out.lt
    refine wpAnyH_ready (rs:=[0]) (by kernel_rfl) (by simp) ?_
    refine(AllReadyH.cons rfl (fun K hK=>?_) AllReadyH.nil)
    go_simp
    go_at_call 105
    refine(Ze3 w20).mono ?_
    rintro e w21 ⟨rfl,E3⟩
    (try dsimp only)
    refine zo hK (EH.trans E3) fun hHeld=>?_
    clear hK K hHeld
    have B7:=zh (B7.out.ext E3)
    have EH:=EH.trans E3
    have LB7:=B7.out.lt
    clear E3
    have hHeld:Ext w2 w21:=EH
    (refine zu 3 (fun w' h=>HIX w') ?_)
    clear hHeld
    have hHeld:Ext w2 w21:=EH
    (refine zw 5 fun K hK=>?_;rw[if_pos (by rfl)];refine Zag 245 _ _ rfl (n7) _ rfl rfl 245 _ B7.out hiS (by rfl) hone ?_;intro u4 B8 M8;refine zo hK (Mod.toExt hHeld M8 (fun k hk he=>by omega)) fun hHeld=>?_;clear hK K)
    refine zd ?_
    go_wp2_with fail
    go_meet
    exact⟨n7,rfl,hn7W,zh B8,hHeld⟩
  case rest=>
   obtain⟨n7,rfl,h7,B7,E27⟩:=hcut
   obtain⟨w5,hw5⟩:=zn (wc)
   subst hw5
   have B5:=zh (B1.out.ext E27)
   have c1:=B7.out.cell 1
   have c2:=B7.out.cell 2
   have o1:=B5.out.cell 1
   have o2:=B5.out.cell 2
   have o3:=B5.out.cell 3
   simp only[zG] at c1 c2 o1 o2 o3
   have EE:=(E1.trans E2).trans E27
   have hen:=HOK.out.enters
   clear HIX HWI k0
   rcases HOK.out.bd with rfl|rfl|rfl|rfl
   ·
    cases ht:o.tx.toList.isEmpty
    ·
     go_wp2
     go_ret
     exact⟨by simp[Zbo, *],EE⟩
    ·
     by_cases hb:o.b=0
     ·
      by_cases ha:o.a=0
      ·
       go_wp2_with(refine wpList_load_row rfl 108 _ rfl _ rfl 108 _ _ _ B5.out Tryz.underlying108 rfl hiO ?_)
       refine(HQC.out _).mono ?_
       rintro e w6 ⟨rfl,E6⟩
       go_wp2
       go_ret
       exact⟨by simp[Zbo, *],EE.trans E6⟩
      ·
       go_wp2
       go_ret
       exact⟨by simp[Zbo, *],EE⟩
     ·
      go_wp2
      go_ret
      exact⟨by simp[Zbo, *],EE⟩
   ·
    cases ht:o.tx.toList.isEmpty
    ·
     go_wp2
     go_ret
     exact⟨by simp[Zbo, *],EE⟩
    ·
     by_cases hb:o.b=0
     ·
      go_wp2_with(refine wpList_load_row rfl 108 _ rfl _ rfl 108 _ _ _ B5.out Tryz.underlying108 rfl hiO ?_)
      refine(HQC.out _).mono ?_
      rintro e w6 ⟨rfl,E6⟩
      go_wp2
      go_ret
      exact⟨by simp[Zbo, *],EE.trans E6⟩
     ·
      go_wp2
      go_ret
      exact⟨by simp[Zbo, *],EE⟩
   ·
    cases ht:o.tx.toList.isEmpty
    ·
     go_wp2
     go_ret
     exact⟨by simp[Zbo, *],EE⟩
    ·
     go_wp2_with(refine wpList_load_row rfl 108 _ rfl _ rfl 108 _ _ _ B5.out Tryz.underlying108 rfl hiO ?_)
     refine(HQC.out _).mono ?_
     rintro e w6 ⟨rfl,E6⟩
     go_wp2
     go_ret
     exact⟨by simp[Zbo, *],EE.trans E6⟩
   ·
    by_cases hb:o.b=0
    ·
     by_cases ha:o.a=0
     ·
      go_wp2_with(refine wpList_load_row rfl 108 _ rfl _ rfl 108 _ _ _ B5.out Tryz.underlying108 rfl hiO ?_)
      refine(HQC.out _).mono ?_
      rintro e w6 ⟨rfl,E6⟩
      go_wp2
      go_ret
      exact⟨by simp[Zbo, *],EE.trans E6⟩
     ·
      go_wp2
      go_ret
      exact⟨by simp[Zbo, *],EE⟩
    ·
     go_wp2
     go_ret
     exact⟨by simp[Zbo, *],EE⟩
 ·have HWI:=zh (show ∀w',Calls Tryz.prog 26 #[.int .i64 o.k,.int .i64 1,.int .i64 16] w' fun e w''=>e= .returned (.bool false)∧Ext w' w'' from fun w'=>by
   have h9:=Zaz o.k 1 16 w'
   rw[decide_eq_false hk] at h9
   exact h9)
  refine⟨false,fun w=>?_⟩
  obtain⟨W1,hW1⟩:=zn (w.alloc (.cells (opA o) 108))
  have E1:Ext w W1:=by rw[hW1];exact(Ext.refl _).alloc _
  have B1:=zh (show Blk W1 w.heap.size 108 (opA o) by rw[hW1];exact Blk.new _ _ _)
  have HW1:=zh hW1
  have hiO:=zi Tryz.prog 108 4
  clear hW1
  have k0:=B1.out.cell 0
  simp only[List.getElem?_toArray,List.getElem?_cons_zero] at k0
  clear hk
  go_enter Tryz.func59,Tryz.ntmps59
  go_upto_region 1 with fail
  rw[←HW1.out]
  clear HW1
  go_wp2_with fail
  refine(HWI.out _).mono ?_
  rintro e w2 ⟨rfl,E2⟩
  go_wp2
  go_ret
  exact⟨rfl,E1.trans E2⟩
noncomputable def rightF (o:Po) (a n:Int):Bool:=(ZgL o a n).choose
theorem ZnW (o:Po)(a n:Int)(w:World):Calls Tryz.prog 59 #[.agg (opA o),.int .i64 a,.int .i64 n] w fun e w'=>e= .returned (.bool (rightF o a n))∧Ext w w':=(ZgL o a n).choose_spec w
theorem Zlz (pb:Nat)(a n:Int)(o:Po)(w:World)(h:Blk w pb 104 (plA a n)):Calls Tryz.prog 58 #[.agg (opA o),.pointer (some ⟨pb,0,none⟩)] w fun e w'=>e= .returned (.bool (!rightF o a n))∧Ext w w':=by
 have hiO:=zi Tryz.prog 108 4
 obtain⟨W1,hW1⟩:=zn (w.alloc (.cells (opA o) 108))
 have E1:Ext w W1:=by rw[hW1];exact(Ext.refl _).alloc _
 have B1:=zh (show Blk W1 w.heap.size 108 (opA o) by rw[hW1];exact Blk.new _ _ _)
 have HW1:=zh hW1
 have k0:=(h.ext E1).cell 0
 have k1:=(h.ext E1).cell 1
 simp only[zG] at k0 k1
 have HRI:=zh (fun w'=>ZnW o a n w')
 generalize rightF o a n=rf at*
 clear hW1
 go_enter Tryz.func58,Tryz.ntmps58
 go_upto_region 1 with fail
 rw[←HW1.out]
 clear HW1
 go_wp2_with(first|(refine wpList_load_row rfl 108 _ rfl _ rfl 108 _ _ _ B1.out Tryz.underlying108 rfl hiO ?_)|fail)
 refine(HRI.out _).mono ?_
 rintro e w2 ⟨rfl,E2⟩
 go_wp2
 go_ret
 exact⟨rfl,E1.trans E2⟩
theorem ZhN {pb:Nat}{a n:Int}{w:World}(h:Blk w pb 104 (plA a n)):Zg0 58 #[] #[.pointer (some ⟨pb,0,none⟩)] OpR (fun o=>!rightF o a n) w:=
 ⟨ZkV,fun cs o w' hE hr=>by
  obtain rfl:cs=(opA o).toList:=hr
  exact Zlz pb a n o w' (h.ext hE)⟩
theorem ZlA {A:Nat→Prop}(k:Nat)(bs fs:Array Value)(f:Po→Bool)(v:Value)(l:List Po)(w:World)(h:RdY OpR A w v l)(hf:Zg0 k bs fs OpR f w):
 Calls Tryz.prog 104 #[v,.func (.func k) bs fs] w fun e w'=>e= .returned (.int .i64 (Zdq f l))∧Ext w w':=by
 obtain⟨Ad,c,rfl,hc1,hc2⟩:=h.shape
 have H:=zh (h.mono (B:=fun _=>True) fun _ _ _=>trivial)
 have HF:=zh hf
 have hi:∀cs:List Value,cs.length=4→(Tryz.prog.info? 108).map (·.size)=some cs.length:=fun cs hcs=>by rw[hcs];kernel_rfl
 have HI:=zh hi
 obtain⟨n,hn⟩:=zm (l.length)
 rw[hn] at H hc1⊢
 have HN:=zh hn
 clear h hf hn hi
 go_enter Tryz.func104,Tryz.ntmps104
 go_wp2
 go_loopw [8] (fun i wr=>∃m:Nat,m≤n∧i= .int .i64 m∧Hid (∀p∈l.take m,f p=false)∧Ext w wr) (fun i _=>n - (intOf i).toNat)
 case atStart=>exact⟨0,Nat.zero_le _,rfl,zh (by simp),zX⟩
 case round=>
  obtain⟨m,hm,rfl,HD,hE⟩:=hrel
  by_cases hlt:m<n
  ·obtain⟨b,off,c2,d,cs,hv,hd,hrel2,hlen,hcell⟩:=(H.out.ext hE).cells (j:=m) (by rw[HN.out];exact hlt)
   simp only[Value.slice.injEq] at hv
   obtain⟨rfl,-,rfl⟩:=hv
   have HCELL:=zh (show wr.rangeAt b (off+m*4) cs from hcell)
   have HLEN:=zh (show cs.length=4 from hlen)
   have HA:=zh (HF.out.2 cs d wr hE hrel2.out)
   have HK:=HF.out.1
   clear hlen hcell
   cases hp:f d
   ·rw[hp] at HA
    have HP:=zh hp
    clear hp
    go_wp2_with(first
     |(refine wpList_load_mid rfl 108 _ rfl b (off+m*4) rfl cs _ HCELL.out Tryz.underlying108 rfl (HI.out _ HLEN.out) ?_)
     |(refine HA.out.mono ?_;rintro e w2 ⟨rfl,E2⟩))
    go_roundw
    case rel=>exact⟨m+1,by omega,by go_num,zh (by
     rw[List.take_add_one,hd.out]
     intro q hq
     rcases List.mem_append.1 hq with h|h
     ·exact HD.out q h
     ·simp at h;rw[h];exact HP.out),zX⟩
    case measure=>simp[intOf];omega
   ·rw[hp] at HA
    have HP:=zh hp
    clear hp
    go_wp2_with(first
     |(refine wpList_load_mid rfl 108 _ rfl b (off+m*4) rfl cs _ HCELL.out Tryz.underlying108 rfl (HI.out _ HLEN.out) ?_)
     |(refine HA.out.mono ?_;rintro e w2 ⟨rfl,E2⟩))
    go_ret
    exact⟨by rw[ZaZ hd.out HD.out HP.out];rfl,zX⟩
  ·go_wp2
   go_ret
   obtain rfl:m=l.length:=by have:=HN.out;omega
   have:=HD.out
   rw[List.take_length] at this
   exact⟨by rw[ZaD this];rfl,zX⟩
theorem ZgM {A:Nat→Prop}(k:Nat)(bs fs:Array Value)(f:Po→Bool)(v:Value)(l:List Po)(w:World)(h:RdY OpR A w v l)(hf:Zg0 k bs fs OpR f w):
 Calls Tryz.prog 57 #[v,.func (.func k) bs fs] w fun e w'=>e= .returned (.bool (decide (0≤Zdq f l)))∧Ext w w':=by
 have HI:=zh (ZlA k bs fs f v l w h hf)
 obtain⟨i,hi⟩:=zm (Zdq f l)
 rw[hi] at HI⊢
 clear h hf hi
 by_cases h0:0≤i
 ·rw[decide_eq_true h0]
  go_enter Tryz.func57,Tryz.ntmps57
  go_wp2_with fail
  refine(HI.out).mono ?_
  rintro e w1 ⟨rfl,E1⟩
  go_wp2
  go_ret
  exact⟨by simp,E1⟩
 ·rw[decide_eq_false h0]
  go_enter Tryz.func57,Tryz.ntmps57
  go_wp2_with fail
  refine(HI.out).mono ?_
  rintro e w1 ⟨rfl,E1⟩
  go_wp2
  go_ret
  exact⟨by simp;omega,E1⟩
theorem Zex (s:ByteArray)(hs:s.size≤9223372036854775807):∃q:Bool,(q=true→NameOk s)∧∀w,Calls Tryz.prog 56 #[.string s] w fun e w'=>e= .returned (.bool q)∧Ext w w':=by
 have HT:=zh (fun w'=>show Calls Tryz.prog 103 #[.string s,.string azB] w' (fun e w''=>e= .returned (.string ⟨(Go.Lib.trimS s.data.toList azB.data.toList).toArray⟩)∧Ext w' w'') from Go.Proofs.Any.strings_Trim_laid Tryz.lays160 (by kernel_rfl) s azB w' hs (by decide) (Go.Proofs.ascii_of_all (by decide)))
 have HOK:=zh (show 1≤s.size→s.size≤64→(⟨(Go.Lib.trimS s.data.toList azB.data.toList).toArray⟩:ByteArray).toList.isEmpty=true→NameOk s from fun h1 h2 h3=>⟨h1,h2,by
  rw[Go.Lib.toList_data] at h3
  exact Znk (by simpa using h3)⟩)
 generalize (⟨(Go.Lib.trimS s.data.toList azB.data.toList).toArray⟩:ByteArray)=r at*
 cases h0:s.toList.isEmpty with
 |true=>
  refine⟨false,(fun h=>by cases h),fun w=>?_⟩
  go_enter Tryz.func56,Tryz.ntmps56
  go_wp2
  go_ret
  exact⟨rfl,zX⟩
 |false=>
  have H1:=zh (show 1≤s.size from by
   rcases Nat.eq_zero_or_pos s.size with h|h
   ·rw[Go.Lib.toList_data] at h0
    have h9:s.data.toList=[]:=List.eq_nil_of_length_eq_zero (show s.data.toList.length=0 from h)
    rw[h9] at h0
    cases h0
   ·exact h)
  by_cases h64:(s.size:Int)≤64
  ·refine⟨r.toList.isEmpty,fun h=>HOK.out H1.out (by omega) h,fun w=>?_⟩
   go_enter Tryz.func56,Tryz.ntmps56
   go_wp2_with(go_at_call 103;refine(HT.out _).mono ?_;rintro e w1 ⟨rfl,E1⟩)
   go_ret
   exact⟨by simp,zX⟩
  ·refine⟨false,(fun h=>by cases h),fun w=>?_⟩
   go_enter Tryz.func56,Tryz.ntmps56
   go_wp2
   go_ret
   exact⟨by simp,zX⟩
noncomputable def Zey (s:ByteArray):Bool:=if h:s.size≤9223372036854775807 then(Zex s h).choose else false
theorem ZnX (s:ByteArray)(w:World)(hs:s.size≤9223372036854775807):Calls Tryz.prog 56 #[.string s] w fun e w'=>e= .returned (.bool (Zey s))∧Ext w w':=by
 unfold Zey
 rw[dif_pos hs]
 exact(Zex s hs).choose_spec.2 w
theorem ZlB {s:ByteArray}(h:Zey s=true):NameOk s:=by
 unfold Zey at h
 split at h
 ·rename_i hs
  exact(Zex s hs).choose_spec.1 h
 ·cases h
def WrOk (nm:ByteArray)(l:List Po)(a n:Int):Prop:=Zey nm=true∧l.length≤64∧¬0≤Zdq (fun o=>!rightF o a n) l
def Wr2P (nm:ByteArray)(l:List Po)(a n:Int)(w:World)(e:Ending)(w':World):Prop:=∃x:Int,e= .returned (.int .i64 x)∧(x=0↔WrOk nm l a n)∧Ext w w'
theorem ZlC {A:Nat→Prop}(nm:ByteArray)(v:Value)(l:List Po)(a n:Int)(w:World)(h:RdY OpR A w v l)(hs:nm.size≤9223372036854775807):Calls Tryz.prog 27 #[.agg #[.string nm,v],.agg (plA a n)] w (Wr2P nm l a n w):=by
 obtain⟨Ad,c,rfl,hc1,hc2⟩:=h.shape
 obtain⟨W1,hW1⟩:=zn ((w.alloc (.cells #[.string nm,.slice Ad l.length c] 101)).alloc (.cells (plA a n) 104))
 have E1:Ext w W1:=by rw[hW1];exact((Ext.refl _).alloc _).alloc _
 have B1:=zh (show Blk W1 w.heap.size 101 #[.string nm,.slice Ad l.length c] by rw[hW1];exact(Blk.new _ _ _).alloc _)
 have B2:=zh (show Blk W1 (w.heap.size+1) 104 (plA a n) by rw[hW1];exact Blk.at_ _ _ (by simp))
 have HW1:=zh hW1
 have HNM:=zh (fun w'=>ZnX nm w' hs)
 have HCO:=zh (fun w' (E:Ext W1 w')=>ZgM 58 #[] #[.pointer (some ⟨w.heap.size+1,0,none⟩)] _ _ l w' ((h.ext E1).ext E) (ZhN (a:=a) (n:=n) (B2.out.ext E)))
 have HDF:=zh (show WrOk nm l a n↔(Zey nm=true∧l.length≤64∧¬0≤Zdq (fun o=>!rightF o a n) l) from Iff.rfl)
 unfold Wr2P
 generalize WrOk nm l a n=WK at*
 obtain⟨nf,hnf⟩:=zm (Zey nm)
 rw[hnf] at HNM HDF
 obtain⟨ix,hix⟩:=zm (Zdq (fun o=>!rightF o a n) l)
 rw[hix] at HCO HDF
 obtain⟨cf,hcf⟩:=zm (decide (0≤ix))
 rw[hcf] at HCO
 have HCF:=zh hcf
 obtain⟨L,hL⟩:=zm (l.length)
 rw[hL] at B1 HCO hc1 HW1 HDF⊢
 have k0:=B1.out.cell 0
 simp only[List.getElem?_toArray,List.getElem?_cons_zero] at k0
 clear hW1 h hL hnf hix hcf
 go_enter Tryz.func27,Tryz.ntmps27
 go_upto_region 1 with fail
 rw[←HW1.out]
 clear HW1
 go_wp2_with fail
 refine(HNM.out _).mono ?_
 rintro e w2 ⟨rfl,E2⟩
 cases nf with
 |false=>
  go_wp2
  go_ret
  exact⟨_,rfl,⟨(fun h=>by cases h),fun h=>by have h9:=(HDF.out.1 h).1;cases h9⟩,E1.trans E2⟩
 |true=>
  have k1:=(B1.out.ext E2).cell 1
  simp only[zG] at k1
  by_cases h64:(64:Int)<L
  ·go_wp2
   go_ret
   exact⟨_,rfl,⟨(fun h=>by cases h),fun h=>by have h9:=(HDF.out.1 h).2.1;omega⟩,E1.trans E2⟩
  ·go_wp2_with fail
   refine(HCO.out _ E2).mono ?_
   rintro e w3 ⟨rfl,E3⟩
   cases cf with
   |true=>
    go_wp2
    go_ret
    exact⟨_,rfl,⟨(fun h=>by cases h),fun h=>by have h8:=(HDF.out.1 h).2.2;have h7:=of_decide_eq_true HCF.out;omega⟩,(E1.trans E2).trans E3⟩
   |false=>
    go_wp2
    go_ret
    exact⟨_,rfl,⟨fun _=>HDF.out.2 ⟨by first|trivial|rfl,by omega,by have h7:=of_decide_eq_false HCF.out;omega⟩,fun _=>rfl⟩,(E1.trans E2).trans E3⟩
end Go.Proofs.YtmmhcllibpmfnaaGreatDoor
namespace Go.Proofs.YtmmhcllibpmfnaaGreatDoor
open Go.RowKit Go.Kb Go.Maps
def CkOk (l:List (ByteArray×List Po)):Prop:=(1≤l.length∧l.length≤32)∧(∀ (m:Nat) d,l[m]?=some d→WrOk d.1 d.2 m l.length)∧(l.map (·.1)).Nodup
theorem CkOk.pg {l:List (ByteArray×List Po)}(h:CkOk l):PgOk l:=⟨h.1.1,h.1.2,fun d hd=>by
 obtain⟨j,hj,h9⟩:=List.getElem_of_mem hd
 have h8:=h.2.1 j d (by rw[List.getElem?_eq_getElem hj,h9])
 exact⟨ZlB h8.1,h8.2.1⟩⟩
def Zsn (l:List (ByteArray×List Po))(w:World)(e:Ending)(w':World):Prop:=∃x:Int,e= .returned (.int .i64 x)∧(x=0↔CkOk l)∧Ext w w'
theorem ZrU {l:List (ByteArray×List Po)}{k:Nat}{d:ByteArray×List Po}(h:l[k]?=some d)(hin:d.1∈(l.take k).map (·.1)):¬(l.map (·.1)).Nodup:=fun hn=>by
 obtain⟨x,hx,hxd⟩:=List.mem_map.1 hin
 obtain⟨j,hj,h9⟩:=List.getElem_of_mem hx
 rw[List.length_take] at hj
 have h8:(l.take k)[j]?=some x:=by rw[List.getElem?_eq_getElem (by rw[List.length_take];exact hj),h9]
 rw[List.getElem?_take_of_lt (by omega)] at h8
 have h1:(l.map (·.1))[j]?=some d.1:=by rw[List.getElem?_map,h8,←hxd];rfl
 have h2:(l.map (·.1))[k]?=some d.1:=by rw[List.getElem?_map,h];rfl
 obtain⟨hj1,e1⟩:=List.getElem?_eq_some_iff.1 h1
 obtain⟨hk1,e2⟩:=List.getElem?_eq_some_iff.1 h2
 exact(List.pairwise_iff_getElem.1 hn) j k hj1 hk1 (by omega) (by rw[e1,e2])
theorem Zix {A:Nat→Prop}(v:Value)(l:List (ByteArray×List Po))(w:World)(h:RdY PqR A w v l)(hs:∀d∈l,d.1.size≤9223372036854775807):Calls Tryz.prog 7 #[v] w (Zsn l w):=by
 have hiP:∀a b:Value,(Tryz.prog.info? 101).map (·.size)=some [a,b].length:=fun _ _=>by kernel_rfl
 have hiP2:=zi Tryz.prog 101 2
 obtain⟨Ad,c,rfl,hc1,hc2⟩:=h.shape
 have H:=zh (h.mono (B:=fun _=>True) fun _ _ _=>trivial)
 have HS:=zh hs
 have HDF:=zh (show CkOk l↔((1≤l.length∧l.length≤32)∧(∀ (m:Nat) d,l[m]?=some d→WrOk d.1 d.2 m l.length)∧(l.map (·.1)).Nodup) from Iff.rfl)
 unfold Zsn
 generalize CkOk l=CK at*
 obtain⟨n,hn⟩:=zm (l.length)
 rw[hn] at H hc1 HDF⊢
 have HN:=zh hn
 clear h hn hs
 have HWI:=zh (fun w'=>Zaz n 1 32 w')
 obtain⟨q,hq⟩:=zm (decide ((1:Int)≤n∧(n:Int)≤32))
 rw[hq] at HWI
 cases q with
 |false=>
  have HQ:=zh (of_decide_eq_false hq)
  clear hq
  go_enter Tryz.func7,Tryz.ntmps7
  go_wp2_with fail
  refine(HWI.out _).mono ?_
  rintro e w1 ⟨rfl,E1⟩
  go_wp2
  go_ret
  exact⟨_,rfl,⟨(fun h=>by cases h),fun h=>absurd (by have:=(HDF.out.1 h).1;omega) HQ.out⟩,E1⟩
 |true=>
  have hn32:=of_decide_eq_true hq
  have HB:=zh hn32
  clear hq hn32
  go_enter Tryz.func7,Tryz.ntmps7
  go_wp2_with fail
  refine(HWI.out _).mono ?_
  rintro e w1 ⟨rfl,E1⟩
  have E1:=zh E1
  go_wp2
  go_loopw [15] (fun i wr=>∃m:Nat,m≤n∧i= .int .i64 m∧Hid (∀ (j:Nat) d,j<m→l[j]?=some d→WrOk d.1 d.2 j n)∧Hid (Ext w wr)) (fun i _=>n - (intOf i).toNat)
  case atStart=>exact⟨0,Nat.zero_le _,rfl,zh (fun j d hj=>by omega),E1⟩
  case round=>
   obtain⟨m,hm,rfl,HD,hE⟩:=hrel
   by_cases hlt:m<n
   ·obtain⟨b,off,c2,d,cs,hv,hd,hrel2,hlen,hcell⟩:=(H.out.ext hE.out).cells (j:=m) (by rw[HN.out];exact hlt)
    simp only[Value.slice.injEq] at hv
    obtain⟨rfl,-,rfl⟩:=hv
    obtain⟨v2,rfl,hr2⟩:=hrel2.out
    obtain⟨nm,ops⟩:=d
    dsimp only at hr2 hcell
    have HCELL:=zh (show wr.rangeAt b (off+m*2) [.string nm,v2] from hcell)
    have HR2:=zh hr2
    have hsz:=HS.out (nm,ops) (List.mem_of_getElem? hd.out)
    obtain⟨A2,c2,rfl,-,-⟩:=hr2.shape
    clear hlen hcell hrel2 hr2
    go_upto_region 6 with(refine wpList_load_mid rfl 101 _ rfl b (off+m*2) rfl [.string nm,.slice A2 ops.length c2] _ HCELL.out Tryz.underlying101 rfl (hiP _ _) ?_)
    obtain⟨W9,hW9⟩:=zn (wr.alloc (.cells #[.string nm,.slice A2 ops.length c2] 101))
    have E9:Ext wr W9:=by rw[hW9];exact(Ext.refl _).alloc _
    have P9:=zh (show Blk W9 wr.heap.size 101 #[.string nm,.slice A2 ops.length c2] by rw[hW9];exact Blk.new wr _ _)
    rw[←hW9]
    clear hW9
    go_wp2_with(first|(refine wpList_load_row rfl 101 _ rfl _ rfl 101 _ _ _ P9.out Tryz.underlying101 rfl hiP2 ?_)|fail)
    refine(ZlC nm (.slice A2 ops.length c2) ops _ _ _ ((HR2.out.ext E9).y) hsz).mono ?_
    rintro e w2 ⟨x,rfl,hx,E2⟩
    have E92:=zh ((hE.out.trans E9).trans E2)
    by_cases hx0:x=0
    ·have HX:=zh (hx.1 hx0)
     subst hx0
     clear hx HR2 HCELL P9 E9 E2
     go_wp2
     exact⟨⟨m+1,by omega,by go_num,zh (fun j d hj h8=>by
      by_cases h9:j=m
      ·subst h9
       rw[hd.out] at h8
       rw[←Option.some.inj h8]
       exact HX.out
      ·exact HD.out j d (by omega) h8),E92⟩,by simp[intOf];omega⟩
    ·have HX0:=zh hx0
     have HXI:=zh hx
     clear hx HR2 HCELL P9 E9 E2
     go_wp2
     go_ret
     exact⟨x,rfl,⟨fun h=>absurd h HX0.out,fun h=>HXI.out.2 ((HDF.out.1 h).2.1 m (nm,ops) hd.out)⟩,E92.out⟩
   ·obtain rfl:m=n:=by omega
    obtain⟨wq,rfl⟩:=zn (wr)
    have HPG:=zh (show ∀ (j:Nat) d,l[j]?=some d→WrOk d.1 d.2 j m from fun j d hj=>HD.out j d (by rw[←HN.out];exact(List.getElem?_eq_some_iff.1 hj).1) hj)
    have hmm:=@run_makeMap Tryz.prog
    obtain⟨W3,hW3⟩:=zn (wq.alloc (.map #[] 0))
    obtain⟨M,hM⟩:=zm (wq.heap.size)
    have HM0:=zh (show Zeo ZpX M W3 [] by rw[hW3,←hM];exact Zeo.made ZpX wq)
    have E3:=zh (show Ext w W3 by rw[hW3];exact hE.out.alloc _)
    have HMW:=zh (show w.heap.size≤M by rw[←hM];exact hE.out.size)
    have HW3:=zh hW3
    have HMN:=zh hM
    clear hM hW3 HD hE
    go_wp2
    rw[HMN.out,←HW3.out]
    clear HW3 HMN hmm
    go_loopw [33] (fun i wr=>∃ (k:Nat) (S:List ByteArray),k≤m∧i= .int .i64 k∧S.length≤k∧Hid (S=(l.take k).map (·.1))∧Hid S.Nodup∧Hid (Zeo ZpX M wr S)∧Hid (Ext w wr)) (fun i _=>m - (intOf i).toNat)
    case atStart=>exact⟨0,[],Nat.zero_le _,rfl,Nat.le_refl _,zh rfl,zh List.nodup_nil,HM0,E3⟩
    case round=>
     clear HM0 E3
     obtain⟨k,S,hk,rfl,hSl,HSE,HSD,HM,hE⟩:=hrel
     by_cases hlt:k<m
     ·obtain⟨b,off,c2,d,cs,hv,hd,hrel2,hlen,hcell⟩:=(H.out.ext hE.out).cells (j:=k) (by rw[HN.out];exact hlt)
      simp only[Value.slice.injEq] at hv
      obtain⟨rfl,-,rfl⟩:=hv
      obtain⟨v2,rfl,hr2⟩:=hrel2.out
      obtain⟨nm,ops⟩:=d
      dsimp only at hr2 hcell
      have HCELL:=zh (show wr.rangeAt b (off+k*2) [.string nm,v2] from hcell)
      have hsz:=zh (show ZpX.ok nm from HS.out (nm,ops) (List.mem_of_getElem? hd.out))
      obtain⟨A2,c2,rfl,-,-⟩:=hr2.shape
      have hmb:=HB.out
      clear hlen hcell hrel2 hr2
      go_upto_region 14 with(refine wpList_load_mid rfl 101 _ rfl b (off+k*2) rfl [.string nm,.slice A2 ops.length c2] _ HCELL.out Tryz.underlying101 rfl (hiP _ _) ?_)
      obtain⟨W9,hW9⟩:=zn (wr.alloc (.cells #[.string nm,.slice A2 ops.length c2] 101))
      have E9:Ext wr W9:=by rw[hW9];exact(Ext.refl _).alloc _
      have P9:=zh (show Blk W9 wr.heap.size 101 #[.string nm,.slice A2 ops.length c2] by rw[hW9];exact Blk.new wr _ _)
      rw[←hW9]
      have hE9:=zh (hE.out.trans E9)
      have HM9:=zh (HM.out.ext E9)
      have k0:=P9.out.cell 0
      simp only[List.getElem?_toArray,List.getElem?_cons_zero] at k0
      clear hW9 HM hE E9
      by_cases hin:nm∈S
      ·have HIN:=zh (show nm∈S↔true=true from⟨fun _=>rfl,fun _=>hin⟩)
       have HDU:=zh (show ¬(l.map (·.1)).Nodup from ZrU (d:=(nm,ops)) hd.out (by rw[←HSE.out];exact hin))
       clear hin
       go_wp2_with(refine Zdt ZpX rfl _ _ rfl rfl HM9.out nm rfl hsz.out true HIN.out ?_)
       go_ret
       exact⟨_,rfl,⟨(fun h=>by cases h),fun h=>absurd (HDF.out.1 h).2.2 HDU.out⟩,hE9.out⟩
      ·have HIN:=zh (show nm∈S↔false=true from⟨fun h=>absurd h hin,fun h=>by cases h⟩)
       have HNI:=zh hin
       clear hin
       go_wp2_with(first
        |(refine Zdt ZpX rfl _ _ rfl rfl HM9.out nm rfl hsz.out false HIN.out ?_)
        |(at_mapUpdate;refine Zhi ZpX rfl _ _ _ rfl rfl HM9.out nm HNI.out rfl rfl hsz.out (by omega) ?_;intro w4 m4 M4;have HM4:=zh m4;have E4:=zh (Mod.toExt hE9.out M4 (fun k hk he=>by have:=HMW.out;omega))))
       exact⟨⟨k+1,S++ [nm],by omega,by go_num,by simp;omega,zh (by rw[HSE.out,List.take_add_one,hd.out];simp),zh (by
        rw[List.nodup_append]
        exact⟨HSD.out,by simp,fun a ha b hb=>by
         simp at hb
         rw[hb]
         exact fun h9=>HNI.out (by rw[←h9];exact ha)⟩),HM4,E4⟩,by simp[intOf];omega⟩
     ·go_wp2
      go_ret
      have hkm:k=m:=by omega
      have hnd:=HSD.out
      rw[HSE.out,hkm,List.take_of_length_le (by rw[HN.out];exact Nat.le_refl _)] at hnd
      exact⟨_,rfl,⟨fun _=>HDF.out.2 ⟨by have:=HB.out;omega,HPG.out,hnd⟩,fun _=>rfl⟩,hE.out⟩
end Go.Proofs.YtmmhcllibpmfnaaGreatDoor
namespace Go.Proofs.YtmmhcllibpmfnaaGreatDoor
open Go.RowKit Go.Kb
def ZrV (l:List (ByteArray×List Po))(w:World)(e:Ending)(w':World):Prop:=
 (∃x:Int,e= .returned (.tuple #[.pointer none,.int .i64 x])∧x≠0∧¬CkOk l∧Ext w w')∨
 (CkOk l∧∃kb Ap cp,e= .returned (.tuple #[.pointer (some ⟨kb,0,none⟩),.int .i64 0])∧w.heap.size≤kb∧Blk w' kb 218 (Zrr (.slice Ap l.length cp))∧Ext w w')
theorem Zqo {A:Nat→Prop}(v:Value)(l:List (ByteArray×List Po))(w:World)(h:RdY PqR A w v l)(hs:∀d∈l,d.1.size≤9223372036854775807):Calls Tryz.prog 44 #[v] w (ZrV l w):=by
 have hiP:∀a b:Value,(Tryz.prog.info? 101).map (·.size)=some [a,b].length:=fun _ _=>by kernel_rfl
 have HCH:=zh (Zix v l w h hs)
 unfold Zsn at HCH
 obtain⟨Ad,c,rfl,hc1,hc2⟩:=h.shape
 have H:=zh (h.mono (B:=fun _=>True) fun _ _ _=>trivial)
 obtain⟨n,hn⟩:=zm (l.length)
 rw[hn] at H hc1 HCH⊢
 have HN:=zh hn
 clear h hn hs
 go_enter Tryz.func44,Tryz.ntmps44
 go_wp2_with fail
 refine(HCH.out).mono ?_
 rintro e w1 ⟨x,rfl,hx,E1⟩
 by_cases hx0:x=0
 ·have HCK:=zh (hx.1 hx0)
  have HPG:=zh HCK.out.pg
  subst hx0
  have hn32:n≤32:=by rw[←HN.out];exact HPG.out.le
  clear hx HCH
  go_upto_region 5 with fail
  obtain⟨w2,hw2⟩:=zn (w1.alloc (.cells (Zrr (.slice none 0 0)) 218))
  have E2:Ext w1 w2:=by rw[hw2];exact(Ext.refl _).alloc _
  have P2:=zh (show Blk w2 w1.heap.size 218 (Zrr (.slice none 0 0)) by rw[hw2];exact Blk.new w1 _ _)
  rw[←hw2]
  clear hw2
  obtain⟨kb,hkb⟩:=zm (w1.heap.size)
  have HKB:=zh (show w.heap.size≤kb by rw[←hkb];exact E1.size)
  rw[hkb] at P2⊢
  have E02:=zh (E1.trans E2)
  obtain⟨base,hbase⟩:=zm (w.heap.size)
  rw[hbase] at HKB
  have HBS:=zh hbase
  clear hkb E1 E2 hbase
  go_wp2
  go_loopw [18] (fun i wr=>∃ (m:Nat) (Av:Option Addr) (cv:Nat),m≤n∧i= .int .i64 m∧Hid (Blk wr kb 218 (Zrr (.slice Av m cv)))∧Hid (OwnS PgR 101 base (fun _=>False) wr (.slice Av m cv) ((l.take m).map (·.1)))∧Hid (Ext w wr)) (fun i _=>n - (intOf i).toNat)
  case atStart=>exact⟨0,none,0,Nat.zero_le _,rfl,P2,zh (OwnS.nil _ _ _ _ _),E02⟩
  case round=>
   clear P2 E02
   obtain⟨m,Av,cv,hm,rfl,HB,HO,hE⟩:=hrel
   by_cases hlt:m<n
   ·obtain⟨b,off,c2,d,cs,hv,hd,hrel2,hlen,hcell⟩:=(H.out.ext hE.out).cells (j:=m) (by rw[HN.out];exact hlt)
    simp only[Value.slice.injEq] at hv
    obtain⟨rfl,-,rfl⟩:=hv
    obtain⟨v2,rfl,hr2⟩:=hrel2.out
    obtain⟨nm,ops⟩:=d
    dsimp only at hr2 hcell
    have HCELL:=zh (show wr.rangeAt b (off+m*2) [.string nm,v2] from hcell)
    have HR2:=zh hr2
    have h64:ops.length≤64:=(HPG.out.nm (nm,ops) (List.mem_of_getElem? hd.out)).2
    obtain⟨A2,c2,rfl,-,-⟩:=hr2.shape
    clear hlen hcell hrel2 hr2
    go_upto_region 8 with(refine wpList_load_mid rfl 101 _ rfl b (off+m*2) rfl [.string nm,.slice A2 ops.length c2] _ HCELL.out Tryz.underlying101 rfl (hiP _ _) ?_)
    obtain⟨W9,hW9⟩:=zn (wr.alloc (.cells #[.string nm,.slice A2 ops.length c2] 101))
    have E9:Ext wr W9:=by rw[hW9];exact(Ext.refl _).alloc _
    have P9:=zh (show Blk W9 wr.heap.size 101 #[.string nm,.slice A2 ops.length c2] by rw[hW9];exact Blk.new wr _ _)
    rw[←hW9]
    have hE9:=zh (hE.out.trans E9)
    have HB9:=zh (HB.out.ext E9)
    have HO9:=zh (HO.out.ext E9)
    have HCL:=zh (fun w' (E:Ext W9 w')=>Zil (A:=fun _=>True) (.slice A2 ops.length c2) ops w' (((HR2.out.ext E9).ext E).y) (by omega))
    obtain⟨L2,hL2⟩:=zm (ops.length)
    rw[hL2] at P9 HCL⊢
    obtain⟨n9,hn9⟩:=zm (wr.heap.size)
    have hn0:¬(Value.slice Av m cv).ownBlock=some n9:=fun h9=>by have:=(HO.out.row n9 h9).2;omega
    rw[hn9] at P9⊢
    have hgL:¬(Value.slice Av m cv).ownBlock=some kb:=Zai HO.out HB.out (by decide)
    have hkl:=HB9.out.lt
    have hnl:=P9.out.lt
    have q0:=HB9.out.cell 0
    have k0:=P9.out.cell 0
    have k1:=P9.out.cell 1
    simp only[zG] at q0 k0 k1
    have htk:(l.take m).length=m:=by rw[List.length_take,HN.out];omega
    have hbW:base≤W9.heap.size:=by have:=hE9.out.size;have:=HBS.out;omega
    have hkbb:base≤kb:=HKB.out
    clear hW9 HCELL HR2 HB HO hE E9 hL2 hn9 h64
    refine Zao 15 (fun w'=>Kb.Mod (fun k=>(Value.slice Av m cv).ownBlock=some k) W9 w') (by kernel_rfl) (Mod.of_ext (Ext.drew (Ext.refl _))) (fun hHeld=>?_)
    obtain⟨D,hD⟩:=zn (W9.drew)
    have ED:Ext W9 D:=by rw[hD];exact(Ext.refl _).drew
    rw[←hD] at hHeld⊢
    clear hD
    refine zk 0 ?_
    refine zk 1 ?_
    refine zk 2 ?_
    refine zk 3 ?_
    (refine zl 4 (fun _ h=>(h.cell kb 0 hkl hgL).trans q0) ?_)
    refine zk 5 ?_
    (refine zl 6 (fun _ h=>(h.cell n9 0 hnl hn0).trans k0) ?_)
    refine zk 7 ?_
    (refine zl 8 (fun _ h=>(h.cell n9 1 hnl hn0).trans k1) ?_)
    (refine zy 9 fun K hK=>?_;go_simp;go_at_call 45;refine(HCL.out D ED).mono ?_;rintro e u3 ⟨A3,c3,rfl,-,E3⟩;(try dsimp only);refine zo hK (Mod.of_ext (ED.trans E3)) fun hHeld=>?_;clear hK K)
    refine zk 10 ?_
    have EU3:=zh (ED.trans E3)
    clear ED E3
    refine zy 11 fun K hK=>?_
    go_simp
    have HY:=zh (Blk.new u3 101 #[.string nm,.slice A3 L2 c3])
    have EY:=zh (EU3.out.trans ((Ext.refl u3).alloc (.cells #[.string nm,.slice A3 L2 c3] 101)))
    refine zo hK (Mod.of_ext EY.out) fun hHeld=>?_
    clear hK K
    have HL5:=zh (HO9.out.ext EY.out)
    have HB5:=zh (HB9.out.ext EY.out)
    have hs5:=EY.out.size
    generalize u3.alloc (.cells #[.string nm,.slice A3 L2 c3] 101)=u5 at*
    generalize u3.heap.size=nY at*
    clear EU3
    refine zy 12 fun K hK=>?_
    refine ZaE (e:=PgR) (base:=base) (B:=fun _=>False) (A:=fun _=>False) rfl (.tmp 26) (.tmp 33) rfl Tryz.underlying28 ZkY rfl HL5.out rfl (RdY.singleB (e:=PgR) (cs:=[.string nm,.slice A3 L2 c3]) (d:=nm) ⟨_,rfl,rfl⟩ HY.out) rfl (fun _ _ h=>h.elim) (N:=m+1) (by rw[List.length_map,htk];rfl) (by unfold maxLen;omega) (by omega) (by omega) ?_
    intro A9 c9 u6 o9 M9 X9
    have M69:=(Mod.of_ext EY.out).trans M9
    refine zo hK M69 fun hHeld=>?_
    clear hK K
    have HB6:=zh (HB5.out.mod M9 hgL)
    have o9:=zh o9
    have M69:=zh M69
    clear M9 HY HB5 HL5 EY X9
    (refine zy 13 fun K hK=>?_;go_simp;refine zo hK M69.out fun hHeld=>?_;clear hK K)
    refine zk 14 ?_
    have q0:=HB6.out.cell 0
    have f0:=HB6.out.frozen 0
    simp only[List.getElem?_toArray,List.getElem?_cons_zero] at q0
    (refine Zam (rs:=[15]) (by kernel_rfl) (by simp) ?_;refine Zaj.last rfl (fun K hK=>?_) Zaj.nil;go_simp;refine hK.out _ _ ?_;clear hK K;(try simp only[zP]))
    refine Zaw (by kernel_rfl) ?_ _
    have M7:Kb.Mod (fun k=>k=kb) u6 (u6.setCell ⟨kb,0,none⟩ (.slice A9 (m+1) c9)):=(Mod.refl _ _).set1 _
    have hg9:(Value.slice A9 (m+1) c9).ownBlock≠some kb:=Zai o9.out HB6.out (by decide)
    have HB7:=zh (show Blk (u6.setCell ⟨kb,0,none⟩ (.slice A9 (m+1) c9)) kb 218 (Zrr (.slice A9 (m+1) c9)) by simpa using HB6.out.set_ 0 (.slice A9 (m+1) c9))
    have HO7:=zh (o9.out.mod M7 (fun k hk he=>hg9 (by rw[hk,he])) (fun k _ hk=>hk.elim))
    have hE7:=zh (Mod.toExt (Mod.toExt hE9.out M69.out (fun k hk he=>by have:=(HO9.out.row k he).1;have:=HBS.out;omega)) M7 (fun k hk he=>by have:=HBS.out;omega))
    clear M7 hg9 HB6 o9 M69
    generalize u6.setCell ⟨kb,0,none⟩ (.slice A9 (m+1) c9)=u7 at*
    go_wp2
    exact⟨⟨m+1,A9,c9,by omega,by go_num,HB7,by rw[List.take_add_one,hd.out];simpa using HO7,hE7⟩,by simp[intOf];omega⟩
   ·obtain rfl:m=n:=by omega
    go_wp2
    go_ret2
    exact .inr ⟨HCK.out,kb,Av,cv,rfl,by rw[HBS.out];exact HKB.out,by rw[HN.out];exact HB.out,hE.out⟩
 ·have HX0:=zh hx0
  have HNC:=zh (show ¬CkOk l from fun h=>hx0 (hx.2 h))
  clear hx HCH
  go_wp2
  go_ret2
  exact .inl ⟨x,rfl,HX0.out,HNC.out,E1⟩
def ZrW (l:List (ByteArray×List Po))(w:World)(e:Ending)(w':World):Prop:=
 (∃x:Int,e= .returned (.tuple #[.pointer none,.int .i64 x])∧x≠0∧¬CkOk l∧Ext w w')∨
 (CkOk l∧∃g kb Ak ck,e= .returned (.tuple #[.pointer (some ⟨g,0,none⟩),.int .i64 0])∧Zdy g kb w.heap.size (l.map (·.1)) (swZ kb w.heap.size (.slice Ak (l.map (·.1)).length ck)) none w'∧Ext w w')
theorem Zqp {A:Nat→Prop}(v:Value)(l:List (ByteArray×List Po))(w:World)(h:RdY PqR A w v l)(hs:∀d∈l,d.1.size≤9223372036854775807):Calls Tryz.prog 18 #[v] w (ZrW l w):=by
 have hiP:∀a b:Value,(Tryz.prog.info? 101).map (·.size)=some [a,b].length:=fun _ _=>by kernel_rfl
 have HKN:=zh (Zqo v l w h hs)
 unfold ZrV at HKN
 obtain⟨Ad,c,rfl,hc1,hc2⟩:=h.shape
 have H:=zh (h.mono (B:=fun _=>True) fun _ _ _=>trivial)
 obtain⟨n,hn⟩:=zm (l.length)
 rw[hn] at H hc1 HKN⊢
 have HN:=zh hn
 clear h hn hs
 go_enter Tryz.func18,Tryz.ntmps18
 go_wp2_with fail
 refine(HKN.out).mono ?_
 rintro e w1 (⟨x,rfl,hx,hnc,E1⟩|⟨hpg,kb,Ap,cp,rfl,hkb,hK,E1⟩)
 ·have HX0:=zh hx
  have HNC:=zh hnc
  clear HKN
  go_wp2
  go_ret2
  exact .inl ⟨x,rfl,HX0.out,HNC.out,E1⟩
 ·have HCK:=zh hpg
  have HPG:=zh hpg.pg
  have HK:=zh hK
  have HKW:=zh hkb
  have hn32:n≤32:=by rw[←HN.out];exact HPG.out.le
  have E1:=zh E1
  clear hpg hK HKN hkb
  go_upto_region 5 with fail
  obtain⟨w2,hw2⟩:=zn (w1.alloc (.cells (Zsl kb (.slice none 0 0)) 143))
  have E2:Ext w1 w2:=by rw[hw2];exact(Ext.refl _).alloc _
  have P2:=zh (show Blk w2 w1.heap.size 143 (Zsl kb (.slice none 0 0)) by rw[hw2];exact Blk.new w1 _ _)
  rw[←hw2]
  clear hw2
  obtain⟨g,hg⟩:=zm (w1.heap.size)
  rw[hg] at P2⊢
  have E02:=zh E2
  obtain⟨base,hbase⟩:=zm (w1.heap.size)
  have HKB:=zh (show base≤g by omega)
  have HBS:=zh hbase
  clear hg E2 hbase
  go_wp2
  go_loopw [23] (fun i wr=>∃ (m:Nat) (Av:Option Addr) (cv:Nat),m≤n∧i= .int .i64 m∧Hid (Blk wr g 143 (Zsl kb (.slice Av m cv)))∧Hid (OwnS PgR 101 base (fun _=>False) wr (.slice Av m cv) ((l.take m).map (·.1)))∧Hid (Ext w1 wr)) (fun i _=>n - (intOf i).toNat)
  case atStart=>exact⟨0,none,0,Nat.zero_le _,rfl,P2,zh (OwnS.nil _ _ _ _ _),E02⟩
  case round=>
   clear P2 E02
   obtain⟨m,Av,cv,hm,rfl,HB,HO,hE⟩:=hrel
   by_cases hlt:m<n
   ·obtain⟨b,off,c2,d,cs,hv,hd,hrel2,hlen,hcell⟩:=((H.out.ext E1.out).ext hE.out).cells (j:=m) (by rw[HN.out];exact hlt)
    simp only[Value.slice.injEq] at hv
    obtain⟨rfl,-,rfl⟩:=hv
    obtain⟨v2,rfl,hr2⟩:=hrel2.out
    obtain⟨nm,ops⟩:=d
    dsimp only at hr2 hcell
    have HCELL:=zh (show wr.rangeAt b (off+m*2) [.string nm,v2] from hcell)
    have HR2:=zh hr2
    have h64:ops.length≤64:=(HPG.out.nm (nm,ops) (List.mem_of_getElem? hd.out)).2
    obtain⟨A2,c2,rfl,-,-⟩:=hr2.shape
    clear hlen hcell hrel2 hr2
    go_upto_region 8 with(refine wpList_load_mid rfl 101 _ rfl b (off+m*2) rfl [.string nm,.slice A2 ops.length c2] _ HCELL.out Tryz.underlying101 rfl (hiP _ _) ?_)
    obtain⟨W9,hW9⟩:=zn (wr.alloc (.cells #[.string nm,.slice A2 ops.length c2] 101))
    have E9:Ext wr W9:=by rw[hW9];exact(Ext.refl _).alloc _
    have P9:=zh (show Blk W9 wr.heap.size 101 #[.string nm,.slice A2 ops.length c2] by rw[hW9];exact Blk.new wr _ _)
    rw[←hW9]
    have hE9:=zh (hE.out.trans E9)
    have HB9:=zh (HB.out.ext E9)
    have HO9:=zh (HO.out.ext E9)
    have HCL:=zh (fun w' (E:Ext W9 w')=>Zil (A:=fun _=>True) (.slice A2 ops.length c2) ops w' (((HR2.out.ext E9).ext E).y) (by omega))
    obtain⟨L2,hL2⟩:=zm (ops.length)
    rw[hL2] at P9 HCL⊢
    obtain⟨n9,hn9⟩:=zm (wr.heap.size)
    have hn0:¬(Value.slice Av m cv).ownBlock=some n9:=fun h9=>by have:=(HO.out.row n9 h9).2;omega
    rw[hn9] at P9⊢
    have hgL:¬(Value.slice Av m cv).ownBlock=some g:=Zai HO.out HB.out (by decide)
    have hkl:=HB9.out.lt
    have hnl:=P9.out.lt
    have q0:=HB9.out.cell 0
    have k0:=P9.out.cell 0
    have k1:=P9.out.cell 1
    simp only[zG] at q0 k0 k1
    have htk:(l.take m).length=m:=by rw[List.length_take,HN.out];omega
    have hbW:base≤W9.heap.size:=by have:=hE9.out.size;have:=HBS.out;omega
    have hkbb:base≤g:=HKB.out
    clear hW9 HCELL HR2 HB HO hE E9 hL2 hn9 h64
    refine Zao 15 (fun w'=>Kb.Mod (fun k=>(Value.slice Av m cv).ownBlock=some k) W9 w') (by kernel_rfl) (Mod.of_ext (Ext.drew (Ext.refl _))) (fun hHeld=>?_)
    obtain⟨D,hD⟩:=zn (W9.drew)
    have ED:Ext W9 D:=by rw[hD];exact(Ext.refl _).drew
    rw[←hD] at hHeld⊢
    clear hD
    refine zk 0 ?_
    refine zk 1 ?_
    refine zk 2 ?_
    refine zk 3 ?_
    (refine zl 4 (fun _ h=>(h.cell g 0 hkl hgL).trans q0) ?_)
    refine zk 5 ?_
    (refine zl 6 (fun _ h=>(h.cell n9 0 hnl hn0).trans k0) ?_)
    refine zk 7 ?_
    (refine zl 8 (fun _ h=>(h.cell n9 1 hnl hn0).trans k1) ?_)
    (refine zy 9 fun K hK=>?_;go_simp;go_at_call 45;refine(HCL.out D ED).mono ?_;rintro e u3 ⟨A3,c3,rfl,-,E3⟩;(try dsimp only);refine zo hK (Mod.of_ext (ED.trans E3)) fun hHeld=>?_;clear hK K)
    refine zk 10 ?_
    have EU3:=zh (ED.trans E3)
    clear ED E3
    refine zy 11 fun K hK=>?_
    go_simp
    have HY:=zh (Blk.new u3 101 #[.string nm,.slice A3 L2 c3])
    have EY:=zh (EU3.out.trans ((Ext.refl u3).alloc (.cells #[.string nm,.slice A3 L2 c3] 101)))
    refine zo hK (Mod.of_ext EY.out) fun hHeld=>?_
    clear hK K
    have HL5:=zh (HO9.out.ext EY.out)
    have HB5:=zh (HB9.out.ext EY.out)
    have hs5:=EY.out.size
    generalize u3.alloc (.cells #[.string nm,.slice A3 L2 c3] 101)=u5 at*
    generalize u3.heap.size=nY at*
    clear EU3
    refine zy 12 fun K hK=>?_
    refine ZaE (e:=PgR) (base:=base) (B:=fun _=>False) (A:=fun _=>False) rfl (.tmp 31) (.tmp 38) rfl Tryz.underlying28 ZkY rfl HL5.out rfl (RdY.singleB (e:=PgR) (cs:=[.string nm,.slice A3 L2 c3]) (d:=nm) ⟨_,rfl,rfl⟩ HY.out) rfl (fun _ _ h=>h.elim) (N:=m+1) (by rw[List.length_map,htk];rfl) (by unfold maxLen;omega) (by omega) (by omega) ?_
    intro A9 c9 u6 o9 M9 X9
    have M69:=(Mod.of_ext EY.out).trans M9
    refine zo hK M69 fun hHeld=>?_
    clear hK K
    have HB6:=zh (HB5.out.mod M9 hgL)
    have o9:=zh o9
    have M69:=zh M69
    clear M9 HY HB5 HL5 EY X9
    (refine zy 13 fun K hK=>?_;go_simp;refine zo hK M69.out fun hHeld=>?_;clear hK K)
    refine zk 14 ?_
    have q0:=HB6.out.cell 0
    have f0:=HB6.out.frozen 0
    simp only[List.getElem?_toArray,List.getElem?_cons_zero] at q0
    (refine Zam (rs:=[15]) (by kernel_rfl) (by simp) ?_;refine Zaj.last rfl (fun K hK=>?_) Zaj.nil;go_simp;refine hK.out _ _ ?_;clear hK K;(try simp only[zP]))
    refine Zaw (by kernel_rfl) ?_ _
    have M7:Kb.Mod (fun k=>k=g) u6 (u6.setCell ⟨g,0,none⟩ (.slice A9 (m+1) c9)):=(Mod.refl _ _).set1 _
    have hg9:(Value.slice A9 (m+1) c9).ownBlock≠some g:=Zai o9.out HB6.out (by decide)
    have HB7:=zh (show Blk (u6.setCell ⟨g,0,none⟩ (.slice A9 (m+1) c9)) g 143 (Zsl kb (.slice A9 (m+1) c9)) by simpa using HB6.out.set_ 0 (.slice A9 (m+1) c9))
    have HO7:=zh (o9.out.mod M7 (fun k hk he=>hg9 (by rw[hk,he])) (fun k _ hk=>hk.elim))
    have hE7:=zh (Mod.toExt (Mod.toExt hE9.out M69.out (fun k hk he=>by have:=(HO9.out.row k he).1;have:=HBS.out;omega)) M7 (fun k hk he=>by have:=HBS.out;omega))
    clear M7 hg9 HB6 o9 M69
    generalize u6.setCell ⟨g,0,none⟩ (.slice A9 (m+1) c9)=u7 at*
    go_wp2
    exact⟨⟨m+1,A9,c9,by omega,by go_num,HB7,by rw[List.take_add_one,hd.out];simpa using HO7,hE7⟩,by simp[intOf];omega⟩
   ·obtain rfl:m=n:=by omega
    have hz1:=E1.out.size
    have hz2:=hE.out.size
    have hbs:=HBS.out
    have HKr:=zh (HK.out.ext hE.out)
    have hO9:=HO.out
    rw[List.take_of_length_le (by rw[HN.out];exact Nat.le_refl _)] at hO9
    have HO9:=zh hO9
    clear hO9 HO HK
    go_wp2
    go_ret2
    refine .inr ⟨HCK.out,g,kb,Ap,cp,rfl,⟨.slice Av m cv,.slice none 0 0,.slice none 0 0,.slice none 0 0,.slice none 0 0,[],?_⟩,E1.out.trans hE.out⟩
    refine⟨by omega,by have:=HKB.out;omega,HB.out,Emp.nil,HO9.out.lower (by omega),OwnS.nil _ _ _ _ _,OwnS.nil _ _ _ _ _,⟨rfl,fun j b x hb=>(by simp at hb),fun j x hx=>(by simp[swZ] at hx),fun x hx=>(by simp[swZ] at hx)⟩,List.nodup_nil,fun b hb=>(by simp at hb),OwnS.nil _ _ _ _ _,rfl,?_,KS.ks⟩
    refine⟨HKW.out,OwnS.nil _ _ _ _ _,fun _=>?_,fun h=>by cases h⟩
    have h9:=HKr.out
    rw[List.length_map,HN.out]
    exact h9
def SwDo (g kb base:Nat)(ns:List ByteArray)(S1:SwT)(Q:SwT→Prop)(evs:List Ev):Prop:=
 (evs=[]∧Q S1)∨(∃ev fn,evs=[ev]∧(∀w,(Instr.index 209 (.agg coA) (.int .i64 ev.k)).run Tryz.prog w= .ok (.func (.func fn) #[] #[]) w)∧(∀args w,(callFunc fn args).run Tryz.prog w= .ok (.enter fn args) w)∧
   ∀v sb w,Zdy g kb base ns S1 sb w→RdS Ub8 (fun _=>True) w v ev.da→Calls Tryz.prog fn #[.pointer (some ⟨g,0,none⟩),.agg (evA ev v)] w (fun e w'=>e= .returned (.tuple #[])∧ZgJ g kb base ns Q sb w w'))
abbrev ZnY (S:SwT)(cs2:List Ch)(dd:Bool)(ms:List Mg):SwT:={S with cs:=cs2,dead:=dd,said:=S.said++pks ms}
theorem ZgN (g kb base:Nat)(ns:List ByteArray)(S:SwT)(Q:SwT→Prop)(sb:Option Nat)(m:Mg)(cs2:List Ch)(dd:Bool)(ms:List Mg)(evs:List Ev)(vb:Value)(w:World)
 (hS:Zdy g kb base ns S sb w) (hdd:S.dead=false) (hvb:RI .u8 w vb (encM m)) (hg:GoodM m) (how:ownM m=m)
 (hT:∀v w' cv,RdS Ub8 (fun k=>w.heap.size≤k) w' v m.da→RdY ChR (fun _=>True) w' cv S.cs→Calls Tryz.prog 72 #[.agg (muxA cv false),.agg (mgA m v)] w' (Zi5 cs2 dd ms evs 0 w'))
 (hms:∀x∈ms,GoodM x) (hml:ms.length≤100) (hsl:S.said.length≤100000) (hdo:SwDo g kb base ns (ZnY S cs2 dd ms) Q evs):
 Calls Tryz.prog 40 #[.pointer (some ⟨g,0,none⟩),vb] w fun e w'=>e= .returned (.tuple #[])∧ZgJ g kb base ns Q sb w w':=by
 have hiM:=zi Tryz.prog 62 10
 have hiX:=zi Tryz.prog 72 3
 have hiE:∀x v,(Tryz.prog.info? 207).map (·.size)=some (evA x v).toList.length:=fun _ _=>by kernel_rfl
 have hiE2:=zi Tryz.prog 207 6
 have HDEC:=zh (show Calls Tryz.prog 71 #[vb] w (Zsh m w) from by
  obtain⟨ps,hp1,hp2,hp3,hp4⟩:=hg.ps
  refine ZcP m ps vb w ?_ hp1 hg.ok hp3 hp2
  have h9:encM m=encL (flds m ps):=by unfold encM;rw[hp1]
  rw[←h9]
  exact hvb)
 unfold Zsh at HDEC
 rw[how] at HDEC
 obtain⟨pv,fv,cv,lv,sv,bs,hS⟩:=hS
 have HS:=zh hS
 have HT:=zh hT
 have HDO:=zh hdo
 have HMS:=zh hms
 clear hS hT hdo hms hg how hvb
 go_enter Tryz.func40,Tryz.ntmps40
 go_wp2_with fail
 refine(HDEC.out).mono ?_
 rintro e w1 ⟨v,rfl,hv,E1⟩
 obtain⟨Av,c,rfl,-,-⟩:=hv.shape
 go_upto_region 1 with fail
 obtain⟨v,hvv⟩:=zn (Value.slice Av m.da.length c)
 rw[←hvv] at hv⊢
 clear hvv
 obtain⟨w3,hw3⟩:=zn (w1.alloc (.cells (mgA m v) 62))
 have E3:Ext w1 w3:=by rw[hw3];exact(Ext.refl _).alloc _
 have P3:=zh (show Blk w3 w1.heap.size 62 (mgA m v) by rw[hw3];exact Blk.new w1 _ _)
 rw[←hw3]
 have E03:=zh (E1.trans E3)
 have HV3:=zh (hv.ext E3)
 have S3:=zh (HS.out.ext E03.out)
 have HTK:=zh (fun w' (E:Ext w3 w')=>HT.out v w' cv (HV3.out.ext E) (S3.out.ch.ext E).rdT.y)
 unfold Zi5 at HTK
 have HG3:=zh (show Blk w3 g 143 (ZbA pv fv (.bool false) cv lm4 (.bool S.dead) (.pointer (some ⟨kb,0,none⟩)) lv (.slice none 0 0) sv) from S3.out.blk)
 rw[hdd] at HG3
 have hg3:=HG3.out.lt
 have hsv3:=zh S3.out.sd.row
 have hb3:=S3.out.hb
 clear hv hw3 E3 E1 HDEC HT HS
 go_upto_region 3 with fail
 have q3:=HG3.out.cell 3
 have q4:=HG3.out.cell 4
 have q5:=HG3.out.cell 5
 simp only[zG] at q3 q4 q5
 have hLP:∀w',Ext w3 w'→∀i u,[cv,.int .u32 4096,.bool false][i]?=some u→w'.cell? ⟨g,3+i,none⟩=some u:=by
  intro w' hSw i u hu
  rcases i with _|_|_|i
  ·simp at hu;rw[←hu];exact Zaa hSw q3
  ·simp at hu;rw[←hu];exact Zaa hSw q4
  ·simp at hu;rw[←hu];exact Zaa hSw q5
  ·simp at hu
 go_cut [5,6,7,8] (fun s5 s6 s7 s8 wx=>∃ (n6:Nat) (cv2 ov vv:Value),s5= .int .i64 0∧s6= .pointer (some ⟨n6,0,none⟩)∧ov=s7∧vv=s8∧w3.heap.size≤n6∧Hid (Blk wx n6 72 (muxA cv2 dd))∧
  Hid (OwnS ChR 156 w3.heap.size (fun _=>False) wx cv2 cs2)∧Hid (OwnS MgR 62 w3.heap.size (fun k=>w3.heap.size≤k) wx ov ms)∧Hid (OwnS EvR 207 w3.heap.size (fun k=>w3.heap.size≤k) wx vv evs)∧Ext w3 wx)
 case first=>
  refine zg (fun w'=>Ext w3 w') (Ext.drew (Ext.refl _)) fun hHeld=>?_
  have EH:Ext w3 w3.drew:=Ext.drew (Ext.refl _)
  generalize w3.drew=D at*
  refine zr 0 ?_
  refine zr 1 ?_
  refine zr 2 ?_
  (refine zU 3 rfl (yieldsIf_load_mid (by rfl) 72 _ rfl _ _ rfl [cv,.int .u32 4096,.bool false] _ (fun w' hSw=>(fun i u hu=>hLP w' hSw i u hu)) Tryz.underlying72 rfl hiX) ?_)
  (refine zU 4 rfl (Zac (by rfl) 62 _ rfl _ rfl 62 (mgA m v) _ _ (fun w' hSw=>(P3.out.ext hSw)) Tryz.underlying62 rfl hiM) ?_)
  clear hHeld
  refine wpAnyH_ready (rs:=[5,11]) (by kernel_rfl) (by simp) ?_
  refine(AllReadyH.cons rfl (fun K hK=>?_) (AllReadyH.cons rfl (fun K hK=>?_) AllReadyH.nil))
  ·
   go_simp
   go_at_call 72
   refine(HTK.out D EH).mono ?_
   rintro e w20 ⟨cv2,ov,vv,rfl,O1,O2,O3,E3⟩
   (try dsimp only)
   refine zo hK (EH.trans E3) fun hHeld=>?_
   clear hK K hHeld
   have C2:=zh (O1.lower EH.size)
   have M2:=zh ((O2.lower EH.size).mono (B:=fun k=>w3.heap.size≤k∧D.heap.size≤k∧k<w20.heap.size) (fun k hk h=>⟨Nat.le_trans EH.size h,h,hk⟩))
   have V2:=zh ((O3.lower EH.size).mono (B:=fun k=>w3.heap.size≤k∧D.heap.size≤k∧k<w20.heap.size) (fun k hk h=>⟨Nat.le_trans EH.size h,h,hk⟩))
   have EH:=EH.trans E3
   clear E3
   have hHeld:Ext w3 w20:=EH
   refine zr 6 ?_
   refine zr 7 ?_
   refine zr 8 ?_
   refine zr 9 ?_
   refine zr 10 ?_
   clear hHeld
   refine wpAnyH_ready (rs:=[11]) (by kernel_rfl) (by simp) ?_
   refine(AllReadyH.cons rfl (fun K hK=>?_) AllReadyH.nil)
   go_simp
   refine zo hK (EH.alloc _) fun hHeld=>?_
   clear hK K hHeld
   have C2:=zh (C2.out.ext ((Ext.refl _).alloc (.cells #[.slice none 0 0,.int .u32 0,.bool false] 72)))
   have M2:=zh (M2.out.ext ((Ext.refl _).alloc (.cells #[.slice none 0 0,.int .u32 0,.bool false] 72)))
   have V2:=zh (V2.out.ext ((Ext.refl _).alloc (.cells #[.slice none 0 0,.int .u32 0,.bool false] 72)))
   have B6:=zh (Blk.new w20 72 #[.slice none 0 0,.int .u32 0,.bool false])
   obtain⟨n6,hn6⟩:=zm (w20.heap.size)
   have hn6W:w3.heap.size≤n6:=by rw[←hn6];exact EH.size
   have EH:=EH.alloc (.cells #[.slice none 0 0,.int .u32 0,.bool false] 72)
   rw[hn6] at B6⊢
   have hm6:w20.heap.size≤n6:=Nat.le_of_eq hn6
   clear hn6
   generalize w20.alloc _=w21 at*
   have LB6:=B6.out.lt
   have hHeld:Ext w3 w21:=EH
   (refine zw 12 fun K hK=>?_;rw[if_pos (by rfl)];refine Zag 72 _ _ rfl (n6) _ rfl rfl 72 _ B6.out hiX (by rfl) (by obtain⟨Ax,cx,h9,-,-⟩:=C2.out.shape;rw[h9];simp[Value.oneCell']) ?_;intro u4 B8 M8;refine zo hK (Mod.toExt hHeld M8 (fun k hk he=>by omega)) fun hHeld=>?_;clear hK K)
   have C3:=zh (C2.out.mod M8 (fun k hk he=>Zai C2.out B6.out (by decide) (by rw[hk,he])) (fun k _ hk=>hk.elim))
   have M3:=zh ((M2.out.mod M8 (fun k hk he=>Zai M2.out B6.out (by decide) (by rw[hk,he])) (fun k _ hk he=>by omega)).mono (B:=fun k=>w3.heap.size≤k) (fun k _ hk=>hk.1))
   have V3:=zh ((V2.out.mod M8 (fun k hk he=>Zai V2.out B6.out (by decide) (by rw[hk,he])) (fun k _ hk he=>by omega)).mono (B:=fun k=>w3.heap.size≤k) (fun k _ hk=>hk.1))
   refine zr 13 ?_
   refine zr 14 ?_
   refine zr 15 ?_
   refine zd ?_
   go_wp2_with fail
   go_meet
   exact⟨n6,cv2,ov,vv,rfl,rfl,rfl,rfl,hn6W,zh B8,C3,M3,V3,hHeld⟩
  ·
   go_simp
   refine zo hK (EH.alloc _) fun hHeld=>?_
   clear hK K hHeld
   have B6:=zh (Blk.new D 72 #[.slice none 0 0,.int .u32 0,.bool false])
   obtain⟨n6,hn6⟩:=zm (D.heap.size)
   have hn6W:w3.heap.size≤n6:=by rw[←hn6];exact EH.size
   have EH:=EH.alloc (.cells #[.slice none 0 0,.int .u32 0,.bool false] 72)
   rw[hn6] at B6⊢
   have hm6:D.heap.size≤n6:=Nat.le_of_eq hn6
   clear hn6
   generalize D.alloc _=w20 at*
   have LB6:=B6.out.lt
   refine wpAnyH_ready (rs:=[5]) (by kernel_rfl) (by simp) ?_
   refine(AllReadyH.cons rfl (fun K hK=>?_) AllReadyH.nil)
   go_simp
   go_at_call 72
   refine(HTK.out w20 EH).mono ?_
   rintro e w21 ⟨cv2,ov,vv,rfl,O1,O2,O3,E3⟩
   (try dsimp only)
   refine zo hK (EH.trans E3) fun hHeld=>?_
   clear hK K hHeld
   have B6:=zh (B6.out.ext E3)
   have C2:=zh (O1.lower EH.size)
   have M2:=zh ((O2.lower EH.size).mono (B:=fun k=>w3.heap.size≤k∧w20.heap.size≤k∧k<w21.heap.size) (fun k hk h=>⟨Nat.le_trans EH.size h,h,hk⟩))
   have V2:=zh ((O3.lower EH.size).mono (B:=fun k=>w3.heap.size≤k∧w20.heap.size≤k∧k<w21.heap.size) (fun k hk h=>⟨Nat.le_trans EH.size h,h,hk⟩))
   have EH:=EH.trans E3
   have LB6:=B6.out.lt
   clear E3
   have hHeld:Ext w3 w21:=EH
   refine zr 6 ?_
   refine zr 7 ?_
   refine zr 8 ?_
   refine zr 9 ?_
   refine zr 10 ?_
   clear hHeld
   have hHeld:Ext w3 w21:=EH
   (refine zw 12 fun K hK=>?_;rw[if_pos (by rfl)];refine Zag 72 _ _ rfl (n6) _ rfl rfl 72 _ B6.out hiX (by rfl) (by obtain⟨Ax,cx,h9,-,-⟩:=C2.out.shape;rw[h9];simp[Value.oneCell']) ?_;intro u4 B8 M8;refine zo hK (Mod.toExt hHeld M8 (fun k hk he=>by omega)) fun hHeld=>?_;clear hK K)
   have C3:=zh (C2.out.mod M8 (fun k hk he=>Zai C2.out B6.out (by decide) (by rw[hk,he])) (fun k _ hk=>hk.elim))
   have M3:=zh ((M2.out.mod M8 (fun k hk he=>Zai M2.out B6.out (by decide) (by rw[hk,he])) (fun k _ hk he=>by omega)).mono (B:=fun k=>w3.heap.size≤k) (fun k _ hk=>hk.1))
   have V3:=zh ((V2.out.mod M8 (fun k hk he=>Zai V2.out B6.out (by decide) (by rw[hk,he])) (fun k _ hk he=>by omega)).mono (B:=fun k=>w3.heap.size≤k) (fun k _ hk=>hk.1))
   refine zr 13 ?_
   refine zr 14 ?_
   refine zr 15 ?_
   refine zd ?_
   go_wp2_with fail
   go_meet
   exact⟨n6,cv2,ov,vv,rfl,rfl,rfl,rfl,hn6W,zh B8,C3,M3,V3,hHeld⟩
 case rest=>
  obtain⟨n6,cv2,ov,vv,rfl,rfl,rfl,rfl,h6,B6,C3,M3,V3,E35⟩:=hcut
  obtain⟨w5,hw5⟩:=zn (wc)
  subst hw5
  have hone:(muxA cv2 dd).all (·.oneCell')=true:=by
   obtain⟨Ax,cx,h9,-,-⟩:=C3.out.shape
   rw[h9]
   simp[Value.oneCell']
  have S5:=zh (S3.out.ext E35)
  have HG5:=zh (HG3.out.ext E35)
  have hth:w5.there g 3 3:=fun t ht=>⟨by
   rw[HG5.out.cell]
   rcases t with _|_|_|t
   ·rfl
   ·rfl
   ·rfl
   ·omega,HG5.out.frozen _⟩
  have B9:=zh (show Blk (w5.setCells g 3 [cv2,.int .u32 4096,.bool dd]) g 143 (ZbA pv fv (.bool false) cv2 lm4 (.bool dd) (.pointer (some ⟨kb,0,none⟩)) lv (.slice none 0 0) sv) from Blk.setCells [cv2,.int .u32 4096,.bool dd] 3 w5 _ HG5.out (by simp))
  have M9:=zh (Mod.setCells [cv2,.int .u32 4096,.bool dd] 3 w5 w5 (Mod.refl (fun k=>k=g) w5))
  go_upto_region 5 with(first|(refine wpList_load_row rfl 72 _ rfl _ rfl 72 _ _ _ B6.out Tryz.underlying72 rfl hiX ?_)|(refine wpList_store_mid rfl 72 _ _ rfl g 3 (muxA cv2 dd) rfl rfl (by exact hth) hiX hone ?_))
  obtain⟨w6,hw6⟩:=zn (w5.setCells g 3 [cv2,.int .u32 4096,.bool dd])
  rw[←hw6] at B9 M9⊢
  clear hw6
  have hgn:∀k,k=g→¬w3.heap.size≤k:=fun k hk=>by omega
  have C9:=zh (C3.out.mod M9.out (fun k hk he=>hgn k he (C3.out.row k hk).1) (fun k _ hk=>hk.elim))
  have MM9:=zh (M3.out.mod M9.out (fun k hk he=>hgn k he (M3.out.row k hk).1) (fun k _ hk he=>hgn k he hk))
  have V9:=zh (V3.out.mod M9.out (fun k hk he=>hgn k he (V3.out.row k hk).1) (fun k _ hk he=>hgn k he hk))
  have S6:=zh (S5.out.mux hb3 M9.out B9.out C9.out)
  have T6:=zh ((SwM.of_ext (E03.out.trans E35):SwM base sb w w5).trans (fun k h=>.inl h) (SwM.srv S5.out M9.out))
  have hz6:=M9.out.size
  have hz5:=E35.size
  have hA6:∀k,(w3.heap.size≤k∧k<w6.heap.size)→k<w6.heap.size∧k≠g∧sv.ownBlock≠some k:=fun k hk=>⟨hk.2,by omega,fun he=>by have:=(hsv3.out k he).2;omega⟩
  have HEA:=zh (ZmH g base pv fv (.bool false) cv2 lm4 (.bool dd) (.pointer (some ⟨kb,0,none⟩)) lv (.slice none 0 0) sv ov S.said ms w6 B9.out S6.out.sd S6.out.hb (by omega) (by omega) ((MM9.out.rd (A:=fun k=>w3.heap.size≤k) (fun k hk=>hk) (fun k hk=>hk)).lt) hA6 HMS.out)
  unfold Zpj at HEA
  clear B6 C3 M3 V3 S5 HG5 HG3 hth hone MM9 C9 hLP q3 q4 q5 P3 HV3 HTK S3 E35
  go_wp2_with fail
  refine(HEA.out).mono ?_
  rintro e w7 ⟨rfl,sv7,B7,O7,own7,M7⟩
  have S7:=zh (show SwW g kb base ns (ZnY S cs2 dd ms) sv7.ownBlock w7 pv fv cv2 lv sv7 bs from S6.out.say (Nat.le_refl base) M7 B7 (S6.out.ch.modT (S6.out.sT M7) (by decide)) O7)
  have T7:=zh (T6.out.trans (fun k h=>.inl h) (SwM.say S6.out M7))
  have hz7:=M7.size
  have V7:=zh (V9.out.mod M7 (fun k hk he=>by
   have h1:=(V9.out.row k hk).1
   rcases he with he|he
   ·omega
   ·have:=(hsv3.out k he).2;omega) (fun k _ hk he=>by
   rcases he with he|he
   ·omega
   ·have:=(hsv3.out k he).2;omega))
  have hz0:=E03.out.size
  have hown:∀k,sv7.ownBlock=some k→sb=some k∨w.heap.size≤k:=fun k hk=>by
   rcases own7 k hk with h9|h9
   ·exact .inl (by rw[←S6.out.sb];exact h9)
   ·exact .inr (by omega)
  have HOWN:=zh hown
  clear S6 T6 V9 B9 M9 HEA O7 own7 M7 hA6 hgn hown HMS E03 B7
  rcases HDO.out with⟨rfl,hq⟩|⟨ev,fn,rfl,hix,hen,hcall⟩
  ·obtain⟨Av2,cv9,rfl,-,-⟩:=V7.out.shape
   have HQ:=zh hq
   clear HDO V7 hq
   go_wp2
   go_loopw [45] (fun i wr=>i= .int .i64 0∧wr=w7) (fun _ _=>0)
   case atStart=>exact⟨rfl,rfl⟩
   case round=>
    obtain⟨rfl,rfl⟩:=hrel
    go_wp2
    go_end0
    exact⟨rfl,_,sv7.ownBlock,HQ.out,⟨pv,fv,cv2,lv,sv7,bs,S7.out⟩,HOWN.out,T7.out⟩
  ·have HIX:=hix
   have HCALL:=zh hcall
   have V8:=zh ((V7.out.rd (A:=fun _=>True) (fun _ _=>trivial) (fun _ _=>trivial)).y)
   obtain⟨Av2,cv9,rfl,-,-⟩:=V7.out.shape
   clear HDO V7 hix hcall
   go_wp2
   go_loopw [45] (fun i wr=>(i= .int .i64 0∧wr=w7)∨(i= .int .i64 1∧Hid (ZgJ g kb base ns Q sb w wr))) (fun i _=>1 - (intOf i).toNat)
   case atStart=>exact .inl ⟨rfl,rfl⟩
   case round=>
    rcases hrel with⟨rfl,rfl⟩|⟨rfl,HF⟩
    ·obtain⟨b9,off,c9,d,cs,hv9,hd9,hrel9,hl9,hcell⟩:=V8.out.cells (j:=0) (by simp)
     simp only[Value.slice.injEq] at hv9
     obtain⟨rfl,-,-⟩:=hv9
     obtain rfl:ev=d:=by simpa using hd9.out
     obtain⟨ve,rfl,hre⟩:=hrel9.out
     have HRE:=zh hre
     obtain⟨A5,c5,rfl,-,-⟩:=hre.shape
     have HCELL:=zh (show wr.rangeAt b9 (off+0*6) (evA ev (.slice A5 ev.da.length c5)).toList from hcell)
     clear hcell hl9 hd9 hrel9
     go_upto_region 11 with(refine wpList_load_mid rfl 207 _ rfl b9 off rfl (evA ev (.slice A5 ev.da.length c5)).toList _ (by have h9:=HCELL.out;rw[Nat.zero_mul,Nat.add_zero] at h9;exact h9) Tryz.underlying207 rfl (hiE _ _) ?_)
     obtain⟨ve,hve⟩:=zn (Value.slice A5 ev.da.length c5)
     rw[←hve] at HRE⊢
     clear hve
     obtain⟨W9,hW9⟩:=zn (wr.alloc (.cells (evA ev ve) 207))
     have E9:Ext wr W9:=by rw[hW9];exact(Ext.refl _).alloc _
     have P9:=zh (show Blk W9 wr.heap.size 207 (evA ev ve) by rw[hW9];exact Blk.new wr _ _)
     rw[←hW9]
     have S9:=zh (S7.out.ext E9)
     have HRE9:=zh (HRE.out.ext E9)
     have hn9:¬(ZaT Zly base W9 wr.heap.size∨sv7.ownBlock=some wr.heap.size):=fun h9=>h9.elim (P9.out.nty (by decide)) (Zai S9.out.sd P9.out (by decide))
     clear hW9 HCELL hre HRE S7
     unfold coA at HIX
     refine zg (fun w'=>SwM base sv7.ownBlock W9 w') (SwM.of_ext (Ext.drew (Ext.refl _))) fun hHeld=>?_
     obtain⟨D,hD⟩:=zn (W9.drew)
     have ED:Ext W9 D:=by rw[hD];exact(Ext.refl _).drew
     rw[←hD] at hHeld⊢
     clear hD
     refine zr 1 ?_
     (refine zT (i:=2) (v:=?_) rfl (Or.inl ⟨by rfl,?_⟩) ?_;rotate_left;(focus(intro w' hSw;have kc:=(Blk.mod P9.out hSw hn9).cell 0;simp only[List.getElem?_toArray,List.getElem?_cons_zero] at kc;go_simp;try with_reducible rfl));(try simp only[zP]))
     refine zr 4 ?_
     (refine zU 5 rfl (Zac (by rfl) 207 _ rfl _ rfl 207 (evA ev ve) _ _ (fun w' hSw=>(Blk.mod P9.out hSw hn9)) Tryz.underlying207 rfl hiE2) ?_)
     (refine zc 0 (ZkK _) ?_;rintro e w10 ⟨rfl,E10⟩ K hK;refine zo hK (SwM.of_ext (ED.trans E10)) fun hHeld=>?_;clear hK K)
     unfold coA
     (refine zu 3 (fun w' h=>HIX w') ?_)
     have E910:=zh (ED.trans E10)
     clear ED E10
     refine zw 6 fun K hK=>?_
     go_simp
     refine(HCALL.out ve sv7.ownBlock w10 ⟨pv,fv,cv2,lv,sv7,bs,S9.out.ext E910.out⟩ (HRE9.out.ext E910.out)).mono ?_
     rintro e w11 ⟨rfl,T11⟩
     (try dsimp only)
     have T9:=zh (show ZgJ g kb base ns Q sv7.ownBlock W9 w11 from ZgJ.trans (SwM.of_ext E910.out) (fun k h=>.inl h) T11)
     refine hK.out _ _ (by obtain⟨_,_,_,_,_,h9⟩:=T9.out;exact h9) (fun hHeld=>?_)
     clear hK K T11
     (try simp only[zP])
     refine zd ?_
     have T0:=zh (ZgJ.trans T7.out HOWN.out (ZgJ.trans (SwM.of_ext E9) (fun k h=>.inl h) T9.out))
     clear hHeld hen HIX
     go_wp2
     exact⟨.inr ⟨by go_num,T0⟩,by simp[intOf]⟩
    ·go_wp2
     go_end0
     exact⟨rfl,HF.out⟩
end Go.Proofs.YtmmhcllibpmfnaaGreatDoor
namespace Go.Proofs.YtmmhcllibpmfnaaGreatDoor
open Go.RowKit Go.Kb Go.Kb.Frame
theorem Ziy {w:World}{base base2:Nat}{e:TypeId}{size n:Nat}{v:Value}{xs:List Value}(h:w.ownsRow base e size v n xs){k:Nat}(hk:v.ownBlock=some k){ts:List TypeId}(ht:e∉ts):¬ZaT ts base2 w k:=by
 obtain⟨_,⟨hv,_⟩|⟨g,cap,cur,hv,hb0,hb,_⟩⟩:=h
 ·rw[hv] at hk;cases hk
 ·rw[hv] at hk
  have h9:some g=some k:=hk
  obtain rfl:=Option.some.inj h9
  rintro⟨_,cs2,t2,fr2,h3,h4⟩
  rw[hb] at h3
  simp at h3
  exact ht (by rw[h3.2.1];exact h4)
theorem ZgO (g kb base:Nat)(ns:List ByteArray)(Ss:Nat→SwT→Prop)(sb:Option Nat)(ps:List (List Int))(ys:List Int)(vb:Value)(w:World)
 (hS:∃S,Ss 0 S∧Zdy g kb base ns S sb w) (hvb:RI .u8 w vb ys) (hby:Bs ys) (hny:ys.length≤40000000) (hf:ZbC false ys=(([],false),ps,0)) (hps:ps.length≤1000)
 (hdd:∀j S,j≤ps.length→Ss j S→S.dead=false)
 (hst:∀ (j:Nat) p,ps[j]?=some p→∀S v sb' w',Ss j S→Zdy g kb base ns S sb' w'→RI .u8 w' v p→Calls Tryz.prog 40 #[.pointer (some ⟨g,0,none⟩),v] w' fun e w''=>e= .returned (.tuple #[])∧ZgJ g kb base ns (Ss (j+1)) sb' w' w''):
 Calls Tryz.prog 16 #[.pointer (some ⟨g,0,none⟩),vb] w fun e w'=>∃ov S,e= .returned ov∧Ss ps.length S∧OwnS Ub8 5 base (fun _=>False) w' ov S.said∧Zdy g kb base ns {S with said:=[]} none w'∧SwM base sb w w':=by
 have hiF:=zi Tryz.prog 90 2
 have hiFL:∀a b:Value,(Tryz.prog.info? 90).map (·.size)=some [a,b].length:=fun _ _=>hiF
 obtain⟨S0,hq0,pv,fv,cv,lv,sv,bs,hS⟩:=hS
 have hd0:=hdd 0 S0 (Nat.zero_le _) hq0
 have HQ0:=zh hq0
 have HS:=zh hS
 have HSB:=zh (show ∀k,sb=some k→k<w.heap.size from fun k hk=>(hS.sd.row k (by rw[hS.sb];exact hk)).2)
 have hgl:=hS.blk.lt
 have HFD:=zh (Fr.ZhR fv vb false [] ys w (hS.em w) hvb (fun x hx=>by simp at hx) hby (by simp) hny)
 rw[List.nil_append,hf] at HFD
 have HST:=zh hst
 have HDD:=zh hdd
 have hg0:Blk w g 143 (ZbA pv fv (.bool false) cv lm4 (.bool S0.dead) (.pointer (some ⟨kb,0,none⟩)) lv (.slice none 0 0) sv):=hS.blk
 rw[hd0] at hg0
 have HG:=zh hg0
 have q1:=hg0.cell 1
 have q2:=hg0.cell 2
 have q5:=hg0.cell 5
 simp only[zG] at q1 q2 q5
 have hLP:∀i u,[fv,.bool false][i]?=some u→w.cell? ⟨g,1+i,none⟩=some u:=by
  intro i u hu
  rcases i with _|_|i
  ·simp at hu;rw[←hu];exact q1
  ·simp at hu;rw[←hu];exact q2
  ·simp at hu
 obtain⟨n,hn⟩:=zm (ps.length)
 have HN:=zh hn
 rw[hn] at hps⊢
 clear hS hvb hby hf hst hdd hn hg0 hq0
 go_enter Tryz.func16,Tryz.ntmps16
 go_wp2_with(first|(refine wpList_load_mid rfl 90 _ rfl g 1 rfl [fv,.bool false] _ hLP Tryz.underlying90 rfl (hiFL _ _) ?_)|fail)
 refine(HFD.out).mono ?_
 rintro e w3 ⟨rv,lvs,rfl,⟨vs,mid,hvs,hmid,hrv⟩,E3⟩
 obtain⟨Ar,cr,rfl⟩:=Zau hrv
 have HEM:=zh (Emp.of (Fr.ZjQ.rd hrv))
 obtain⟨Al,cl,rfl⟩:=Zau hvs.2.1
 have HVS:=zh hvs
 rw[HN.out] at HVS⊢
 clear hrv hvs hmid HFD hLP q1 q2 q5
 simp only[List.length_nil] at HEM⊢
 go_upto_region 4 with fail
 obtain⟨W4,hW4⟩:=zn (w3.alloc (.cells #[.slice Ar 0 cr,.bool false] 90))
 have E4:Ext w3 W4:=by rw[hW4];exact(Ext.refl _).alloc _
 have P4:=zh (show Blk W4 w3.heap.size 90 #[.slice Ar 0 cr,.bool false] by rw[hW4];exact Blk.new w3 _ _)
 rw[←hW4]
 clear hW4
 have E04:=zh (E3.trans E4)
 have S4:=zh (HS.out.ext E04.out)
 have HG4:=zh (HG.out.ext E04.out)
 have hth:W4.there g 1 2:=fun t ht=>⟨by
  rw[HG4.out.cell]
  rcases t with _|_|t
  ·rfl
  ·rfl
  ·omega,HG4.out.frozen _⟩
 have B5:=zh (show Blk (W4.setCells g 1 [.slice Ar 0 cr,.bool false]) g 143 (ZbA pv (.slice Ar 0 cr) (.bool false) cv lm4 (.bool false) (.pointer (some ⟨kb,0,none⟩)) lv (.slice none 0 0) sv) from Blk.setCells [.slice Ar 0 cr,.bool false] 1 W4 _ HG4.out (by simp))
 have M5:=zh (Mod.setCells [.slice Ar 0 cr,.bool false] 1 W4 W4 (Mod.refl (fun k=>k=g) W4))
 go_upto_region 5 with(first|(refine wpList_load_row rfl 90 _ rfl _ rfl 90 _ _ _ P4.out Tryz.underlying90 rfl hiF ?_)|(refine wpList_store_mid rfl 90 _ _ rfl g 1 #[.slice Ar 0 cr,.bool false] rfl rfl (by exact hth) hiF (by simp[Value.oneCell']) ?_))
 obtain⟨w5,hw5⟩:=zn (W4.setCells g 1 [.slice Ar 0 cr,.bool false])
 rw[←hw5] at B5 M5⊢
 clear hw5
 have S5:=zh (S4.out.frm M5.out (by rw[hd0];exact B5.out) HEM.out)
 have T5:=zh ((SwM.of_ext E04.out:SwM base sb w W4).trans (fun k h=>.inl h) (SwM.srv S4.out M5.out))
 have HV5:=zh ((HVS.out.ext E4).mod M5.out (fun k hk he=>by omega))
 have hz5:=T5.out.size
 have A5:=zh (show ∃S,Ss 0 S∧Zdy g kb base ns S sb w5 from⟨S0,HQ0.out,_,_,_,_,_,_,S5.out⟩)
 have HRW:=zh (RdN.of_own HV5.out.2.1)
 rw[HN.out] at HRW
 clear HVS P4 S4 HG4 hth B5 M5 HS HG E3 E4 E04 S5 HEM
 go_wp2
 go_loopw [35] (fun i wr=>∃ (j:Nat) (sb':Option Nat),j≤n∧i= .int .i64 j∧Hid (∃S,Ss j S∧Zdy g kb base ns S sb' wr)∧Hid (∀k,sb'=some k→sb=some k∨w5.heap.size≤k)∧Hid (SwM base sb w5 wr)) (fun i _=>n - (intOf i).toNat)
 case atStart=>exact⟨0,sb,Nat.zero_le _,rfl,A5,zh (fun k h=>.inl h),zh (Mod.refl _ _)⟩
 case round=>
  clear A5
  obtain⟨j,sb',hj,rfl,HA,HO,HM⟩:=hrel
  obtain⟨Sj,hqj,haj⟩:=HA.out
  have HQJ:=zh hqj
  have HA:=zh haj
  have hddj:=HDD.out j Sj (by rw[HN.out];exact hj) hqj
  clear hqj haj
  by_cases hjn:j<n
  ·have hlen:vs.length=n:=by rw[HV5.out.1];exact HN.out
   obtain⟨x,hx⟩:∃x,vs[j]?=some x:=⟨_,List.getElem?_eq_getElem (by rw[hlen];exact hjn)⟩
   obtain⟨p,hp⟩:∃p,ps[j]?=some p:=⟨_,List.getElem?_eq_getElem (by rw[HN.out];exact hjn)⟩
   have hox:=HV5.out.2.2 j x p hx hp
   have hnS:∀k,w.heap.size≤k→¬ZaT Zly base w5 k→¬(ZaT Zly base w5 k∨sb=some k):=fun k hk hn h9=>h9.elim hn (fun h9=>by have:=HSB.out k h9;omega)
   have HX:=zh (show RI .u8 wr x p from(Fr.ZjQ.rd hox).mod HM.out (fun k hk=>hnS k (hox.lt k hk).1 (Ziy hox hk (by decide))))
   have HRr:=(HRW.out.mod HM.out (fun k hk=>hnS k (HV5.out.2.1.lt k hk).1 (Ziy HV5.out.2.1 hk (by decide)))).form (by omega)
   obtain⟨b9,off,c9,hv9,-,-,hcl⟩:=HRr
   simp only[Value.slice.injEq] at hv9
   obtain⟨rfl,-,rfl⟩:=hv9
   have kx:=hcl j x hx
   have HSTj:=zh (fun w'=>HST.out j p hp Sj x sb' w' HQJ.out)
   clear hcl hnS hox hx hp
   obtain⟨pv1,fv1,cv1,lv1,sv1,bs1,h1⟩:=HA.out
   have q5:=h1.blk.cell 5
   simp only[List.getElem?_toArray,List.getElem?_cons_zero,List.getElem?_cons_succ,hddj] at q5
   clear h1
   go_wp2_with fail
   refine(HSTj.out wr HA.out HX.out).mono ?_
   rintro e w6 ⟨rfl,S6,sb6,hq6,⟨pv6,fv6,cv6,lv6,sv6,bs6,h6⟩,O6,M6⟩
   have HQ6:=zh hq6
   have H6:=zh h6
   have HO6:=zh (show ∀k,sb6=some k→sb=some k∨w5.heap.size≤k from fun k hk=>(O6 k hk).elim (HO.out k) (fun h9=>.inr (by have:=HM.out.size;omega)))
   have HM6:=zh (HM.out.trans HO.out M6)
   have HSW:=zh (Zgo g pv6 fv6 (.bool false) cv6 lm4 (.bool S6.dead) (.pointer (some ⟨kb,0,none⟩)) lv6 sv6 w6 h6.blk)
   clear h6 O6 M6 hq6 HSTj HX HA HO HM
   go_wp2_with fail
   refine(HSW.out).mono ?_
   rintro e w7 ⟨rfl,B7,M7⟩
   have A7:=zh (show ∃S,Ss (j+1) S∧Zdy g kb base ns S sb6 w7 from⟨S6,HQ6.out,_,_,_,_,_,_,H6.out.frm M7 B7 H6.out.em⟩)
   have HM7:=zh (HM6.out.trans HO6.out (SwM.srv H6.out M7))
   clear HSW B7 M7 H6
   go_wp2
   exact⟨⟨j+1,sb6,by omega,by go_num,A7,HO6,HM7⟩,by simp[intOf];omega⟩
  ·obtain rfl:j=n:=by omega
   obtain⟨pv1,fv1,cv1,lv1,sv1,bs1,h1⟩:=HA.out
   have H1:=zh h1
   have HSP:=zh (Zjm g pv1 fv1 (.bool false) cv1 lm4 (.bool Sj.dead) (.pointer (some ⟨kb,0,none⟩)) lv1 sv1 wr h1.blk)
   clear h1
   go_wp2_with fail
   refine(HSP.out).mono ?_
   rintro e w8 ⟨rfl,B8,M8⟩
   have A8:=zh (show Zdy g kb base ns {Sj with said:=[]} none w8 from⟨_,_,_,_,_,_,H1.out.quiet M8 B8⟩)
   have T8:=zh ((T5.out.trans (fun k h=>.inl h) HM.out).trans (fun k hk=>(HO.out k hk).imp id (fun h9=>by omega)) (SwM.srv H1.out M8))
   have D8:=zh (H1.out.sd.mod M8 (fun k hk he=>Zai H1.out.sd H1.out.blk (by decide) (by rw[hk,he])) (fun k _ hk=>hk.elim))
   clear HSP B8 M8 H1
   go_wp2
   go_ret
   exact⟨_,Sj,rfl,HQJ.out,D8.out,A8.out,T8.out⟩
end Go.Proofs.YtmmhcllibpmfnaaGreatDoor
namespace Go.Proofs.YtmmhcllibpmfnaaGreatDoor.Fr
open Go.RowKit Go.Kb
theorem ZaF (v:Value)(l:List Int)(w:World)(hl:RI .u8 w v l)(hb:Bs l)(h4:4≤l.length):
 Calls Tryz.prog 65 #[v] w fun e w'=>e= .returned (.int .u32 (hd4 l))∧Ext w w':=by
 obtain⟨a,b,c,d,r,rfl⟩:=Zbq h4
 have h:=hl
 have hB:=hb
 clear hl hb h4
 obtain⟨B,off,n,cap,rfl,h4,hm,c0,c1,c2,c3⟩:=Za5 h
 unfold maxLen at hm
 have ba:=hB a (by simp)
 have bb:=hB b (by simp)
 have bc:=hB c (by simp)
 have bd:=hB d (by simp)
 have i0:(0:Int)<(n:Int):=by omega
 have i1:(1:Int)<(n:Int):=by omega
 have i2:(2:Int)<(n:Int):=by omega
 have i3:(3:Int)<(n:Int):=by omega
 clear h hB
 go_enter Tryz.func65,Tryz.ntmps65
 go_wp2
 go_quiet (fail)
 go_wp2
 go_ret
 exact⟨Zfc (by simp[hd4]),zX⟩
end Go.Proofs.YtmmhcllibpmfnaaGreatDoor.Fr
namespace Go.Proofs.YtmmhcllibpmfnaaGreatDoor.Fr
open Go.RowKit Go.Kb Go.Kb.Frame
def Zso (base:Nat)(buf:List Int)(w3:World)(s o:Value)(wr:World):Prop:=
 ∃ (done:List (List Int)) (r:List Int) (vs:List Value),Zbd buf=(done++ (Zbd r).1,(Zbd r).2)∧RI .u8 w3 s r∧Bs r∧(∀k,s.ownBlock=some k→base≤k)∧done.length+r.length≤buf.length∧
   vs.length=done.length∧wr.ownsRow w3.heap.size 43 1 o done.length vs∧(∀ (j:Nat) x l,vs[j]?=some x→done[j]?=some l→RI .u8 w3 x l∧∀k,x.ownBlock=some k→base≤k)∧Ext w3 wr
theorem Zso.step {base:Nat}{buf:List Int}{w3 wr w4 w6:World}{done:List (List Int)}{r:List Int}{b off c m:Nat}{vs:List Value}{o:Value}
 (hfeed:Zbd buf=(done++ (Zbd r).1,(Zbd r).2)) (hr:RI .u8 w3 (.slice (some ⟨b,off,none⟩) r.length c) r) (hbr:Bs r)
 (hblk:∀k,(Value.slice (some ⟨b,off,none⟩) r.length c).ownBlock=some k→base≤k) (hlen:done.length+r.length≤buf.length) (hE:Ext w3 wr)
 (h4:4≤r.length) (hm:hd4 r=m) (hin:1≤(m:Int)∧(m:Int)≤33792) (hw:¬(r.length:Int)<4+(m:Int)) (hE4:Ext wr w4)
 (hl:vs.length=done.length) (hrows:∀ (j:Nat) x l,vs[j]?=some x→done[j]?=some l→RI .u8 w3 x l∧∀k,x.ownBlock=some k→base≤k)
 (ho:w6.ownsRow w3.heap.size 43 1 o (done.length+1) (vs++ [.slice (some ⟨b,off+4,none⟩) m (c - 4)])) (hM6:Below w3.heap.size w4 w6):
 Zso base buf w3 (.slice (if c=4+m then some ⟨b,off,none⟩ else some ⟨b,off+(4+m),none⟩) (r.length - (4+m)) (c - (4+m))) o w6:=by
 refine⟨done++ [(r.drop 4).take m],r.drop (4+m),vs++ [.slice (some ⟨b,off+4,none⟩) m (c - 4)],?_,RI.from_ hr (by omega),Bs.sub hbr fun x hx=>List.mem_of_mem_drop hx,?_,?_,by simp[hl],?_,?_,Below.trans (hE.trans hE4) hM6⟩
 ·rw[hfeed,ZcK h4 (by rw[hm];exact hin) hm (by omega)]
  simp
 ·intro k hk
  have:k=b:=by split at hk<;>simpa [Value.ownBlock,eq_comm] using hk
  rw[this]
  exact hblk b rfl
 ·simp
  omega
 ·simpa using ho
 ·intro j x l hx hl'
  rcases Nat.lt_or_ge j vs.length with hj|hj
  ·rw[List.getElem?_append_left hj] at hx
   rw[List.getElem?_append_left (by omega)] at hl'
   exact hrows j x l hx hl'
  ·rw[List.getElem?_append_right hj] at hx
   rw[List.getElem?_append_right (by omega)] at hl'
   have:j - vs.length=0:=by
    rcases Nat.eq_zero_or_pos (j - vs.length) with h|h
    ·exact h
    ·rw[List.getElem?_eq_none (by simp;omega)] at hx;cases hx
   rw[←hl,this] at hl'
   rw[this] at hx
   simp at hx hl'
   subst hx hl'
   exact⟨RI.sub_ hr (by omega),fun k hk=>hblk k (by simpa [Value.ownBlock] using hk)⟩
theorem ZnZ {B done_:Nat}{w2 wr w4 W:World}{done:List (List Int)}{vs:List Value}{o:Value}(hd:done_=done.length)(hB2:B<w2.heap.size)(hl:vs.length=done.length)(ho:wr.ownsRow w2.heap.size 43 1 o done_ vs)
 (hrows:∀ (j:Nat) x l,vs[j]?=some x→done[j]?=some l→RI .u8 w2 x l∧∀k,x.ownBlock=some k→B+1≤k) (hE:Ext w2 wr) (hE4:Ext wr w4) (hW:Mod (fun k=>k=B) w4 W):ZqH W o done:=by
 subst hd
 refine⟨vs,hl,RdN.of_own (own_mod (Za8 ho hE4) hW fun k hk=>by have:=(ho.lt k hk).1;omega),fun j x l hx hl'=>?_⟩
 have h:=hrows j x l hx hl'
 exact(h.1.ext (hE.trans hE4)).mod hW fun k hk=>by have:=h.2 k hk;omega
theorem ZlD (vb v:Value)(bad:Bool)(xs ys:List Int)(w:World)(hx:RI .u8 w vb xs)(hy:RI .u8 w v ys)(bx:Bs xs)(bY:Bs ys)(nx:xs.length≤40000000)(ny:ys.length≤40000000):
 Calls Tryz.prog 38 #[.agg #[vb,.bool bad],v] w fun e w'=>∃rv lv,e= .returned (.tuple #[.agg #[rv,.bool (ZbC bad (xs++ys)).1.2],lv,.int .i64 (ZbC bad (xs++ys)).2.2])∧
  ZqH w' lv (ZbC bad (xs++ys)).2.1∧RI .u8 w' rv (ZbC bad (xs++ys)).1.1∧(∀k,rv.ownBlock=some k→w.heap.size≤k)∧Ext w w':=by
 have HX:=zh hx
 have HY:=zh hy
 obtain⟨A,c,rfl,hxc,hxm⟩:=hx.shape
 obtain⟨A2,c2,rfl,hyc,hym⟩:=hy.shape
 have HBs:Hid (Bs (xs++ys)):=zh (by
  intro x hx
  rcases List.mem_append.1 hx with hx|hx
  ·exact bx x hx
  ·exact bY x hx)
 clear bx bY hx hy
 cases bad
 ·go_enter Tryz.func38,Tryz.ntmps38
  go_wp2_with(first
   |(at_builtin;refine ZfQ _ rfl (.tmp 13) (.tmp 15) rfl (w.heap.size+1+1) _ 0 [] rfl (ZfN (by simp) _ _ _ (by omega)) _ xs.length _ rfl (((HX.out.alloc _).alloc _).alloc _) (Zbf _ _) (by omega) (by simp) ?_;intro v1 w1 hown1 hB1 hg1 hat1)
   |(at_builtin;refine ZfQ _ rfl (.tmp 16) (.tmp 17) rfl (w.heap.size+1+1) v1 _ _ rfl hown1 _ ys.length _ rfl (HY.out.ext (Below.trans ((((Ext.refl _).alloc _).alloc _).alloc _) (hB1.mono (by omega)))) (Zbf _ _) (by omega) (Nat.le_trans (by simp) hB1.size) ?_;intro v2 w2 hown2 hB2 hg2 hat2))
  have E2:Ext w w2:=Below.trans (Below.trans ((((Ext.refl _).alloc _).alloc _).alloc _) (hB1.mono (by omega))) (hB2.mono (by omega))
  have HF2:Hid (Blk w2 (w.heap.size+1) 135 #[.slice none 0 0,.bool false]):=zh (by
   have h0:=(Blk.at_ (w:=w.alloc (.cells #[.slice A xs.length c,.bool false] 135)) (B:=w.heap.size+1) 135 #[.slice none 0 0,.bool false] (by simp)).alloc (.cells #[] 5)
   exact(hB2.block _ (by omega)).trans ((hB1.block _ (by omega)).trans h0))
  have hsz:w.heap.size+1+1<w2.heap.size:=by
   have h1:=hB1.size
   have h2:=hB2.size
   simp at h1
   omega
  have hr2:=RdN.of_own hown2
  have hlt2:=hown2.lt
  have ht:0+xs.length+ys.length=(xs++ys).length:=by simp
  have hc: []++List.map (Value.int .u8) xs++List.map (Value.int .u8) ys=u8s (xs++ys):=by simp
  rw[ht,hc] at hr2
  have HR2:=zh hr2
  have HT2:=zh hlt2
  have hlb:(xs++ys).length≤80000000:=by simp;omega
  clear hr2 hlt2 ht hc hown2 hown1 hB1 hB2 hg1 hg2 hat1 hat2
  generalize hbuf:xs++ys=buf
  rw[hbuf] at HR2 HBs hlb
  have HBUF:=zh hbuf
  clear hbuf
  go_loopw [7,8] (Zso (w.heap.size+1+1) buf w2) (fun s _ _=>Zbz s)
  case atStart=>
   exact⟨[],buf,[],by simp,HR2.out,HBs.out,fun k hk=>(HT2.out k hk).1,by simp,rfl,World.ownsRow_nil _ _ _ _,by simp,Ext.refl _⟩
  case round=>
   obtain⟨done,r,vs,hfeed,hr,hbr,hblk,hlen,hl,hO,hrows,hE⟩:=hrel
   obtain⟨A3,c3,rfl,hrc,hrm⟩:=hr.shape
   obtain⟨Ao,co,rfl⟩:=Zau hO
   have HFeed:=zh hfeed
   have HR:=zh hr
   have HBR:=zh hbr
   have HK:=zh hblk
   have HL:=zh hl
   have HO:=zh hO
   have HRows:=zh hrows
   have hbd:=ZeN hbr
   have HFW:Hid (∀W,Ext wr W→Blk W (w.heap.size+1) 135 #[.slice none 0 0,.bool false]):=zh fun W hE'=>HF2.out.ext (hE.trans hE')
   clear hfeed hr hbr hblk hl hO hrows
   by_cases h4:4≤r.length
   ·obtain⟨b,off,rfl⟩:=HR.out.addr (by omega)
    obtain⟨m,hm⟩:=Int.eq_ofNat_of_zero_le hbd.1
    rw[hm] at hbd
    have HMM:=zh hm
    clear hm
    by_cases hin:1≤(m:Int)∧(m:Int)≤33792
    ·have HIN:=zh hin
     have hm0:((m:Int)==0)=false:=by simp;omega
     have hm1:decide ((33792:Int)<m)=false:=by simp;omega
     by_cases hw:(r.length:Int)<4+(m:Int)
     ·have hw2:(r.length:Int) - 4<m:=by omega
      have hsh:Hid (Zbd r=([],some r)):=zh (ZeP h4 (by rw[HMM.out];exact HIN.out) (by rw[HMM.out];exact hw))
      go_wp2_with((go_at_call 65;refine(ZaF _ r _ (HR.out.ext hE) HBR.out h4).mono ?_;rintro e w4 ⟨rfl,hE4⟩);rw[HMM.out];obtain⟨c1,c2,f1,f2⟩:=(HFW.out w4 hE4).two)
      have hW:Mod (fun k=>k=w.heap.size+1) w4 ((w4.setCell ⟨w.heap.size+1,0,none⟩ (.slice (some ⟨b,off,none⟩) r.length c3)).setCell ⟨w.heap.size+1,1,none⟩ (.bool false)):=
       (by repeat(first|with_reducible exact Mod.refl _ _|refine Mod.drew ?_|refine Mod.drewN ?_ _|refine Mod.set1 ?_ _))
      obtain⟨q0,q1,_,_⟩:=((HFW.out w4 hE4).put2 (.slice (some ⟨b,off,none⟩) r.length c3) (.bool false)).two
      refine bodyPost_ret (v:=.tuple #[.agg #[.slice (some ⟨b,off,none⟩) r.length c3,.bool false],.slice Ao done.length co,.int .i64 0]) (by simp[results,Tryz.results38,go_sem,q0,q1]) rfl ?_
      rw[HBUF.out,ZbT (r:=r) (l:=done) (by rw[HFeed.out,hsh.out];simp)]
      exact⟨_,_,rfl,ZnZ rfl (by omega) HL.out HO.out HRows.out hE hE4 hW,(HR.out.ext (hE.trans hE4)).mod hW (fun k hk=>by have:=HK.out k hk;omega),fun k hk=>by have:=HK.out k hk;omega,Mod.toExt ((E2.trans hE).trans hE4) hW (by intro k hk;omega)⟩
     ·have hw2:(m:Int)≤(r.length:Int) - 4:=by omega
      go_wp2_with(first
       |((go_at_call 65;refine(ZaF _ r _ (HR.out.ext hE) HBR.out h4).mono ?_;rintro e w4 ⟨rfl,hE4⟩);rw[HMM.out])
       |(at_builtin;refine Zmb _ rfl _ _ rfl w2.heap.size _ _ vs rfl (Za8 HO.out (hE4.alloc _)) _ 1 _ rfl (RdN.oneB rfl _ _) (by simp[Value.oneCell']) (by omega) (Nat.le_trans hE.size (Nat.le_trans hE4.size (by simp))) ?_;intro v6 w6 hown6 hB6 hg6 hat6))
      exact⟨Zso.step HFeed.out HR.out HBR.out HK.out hlen hE h4 HMM.out HIN.out (by omega) hE4 HL.out HRows.out hown6 (Below.trans ((Ext.refl w4).alloc _|>.mono (Nat.le_trans hE.size hE4.size)) hB6),by simp only[Zbz];omega⟩
    ·have HIN:=zh hin
     by_cases hm0:m=0
     ·subst hm0
      clear hin
      go_wp2_with((go_at_call 65;refine(ZaF _ r _ (HR.out.ext hE) HBR.out h4).mono ?_;rintro e w4 ⟨rfl,hE4⟩);rw[HMM.out];obtain⟨c1,c2,f1,f2⟩:=(HFW.out w4 hE4).two)
      have hW:Mod (fun k=>k=w.heap.size+1) w4 ((w4.setCell ⟨w.heap.size+1,0,none⟩ (.slice none 0 0)).setCell ⟨w.heap.size+1,1,none⟩ (.bool true)):=
       (by repeat(first|with_reducible exact Mod.refl _ _|refine Mod.drew ?_|refine Mod.drewN ?_ _|refine Mod.set1 ?_ _))
      obtain⟨q0,q1,_,_⟩:=((HFW.out w4 hE4).put2 (.slice none 0 0) (.bool true)).two
      refine bodyPost_ret (v:=.tuple #[.agg #[.slice none 0 0,.bool true],.slice Ao done.length co,.int .i64 5]) (by simp[results,Tryz.results38,go_sem,q0,q1]) rfl ?_
      rw[HBUF.out,ZcL (l:=done) (by rw[HFeed.out,Zd4 h4 (by rw[HMM.out];exact HIN.out)];simp)]
      exact⟨_,_,rfl,ZnZ rfl (by omega) HL.out HO.out HRows.out hE hE4 hW,RdN.nil _ _,by simp[Value.ownBlock],Mod.toExt ((E2.trans hE).trans hE4) hW (by intro k hk;omega)⟩
     ·have hm1:((m:Int)==0)=false:=by simp;omega
      have hm2:(33792:Int)<m:=by omega
      clear hin
      go_wp2_with((go_at_call 65;refine(ZaF _ r _ (HR.out.ext hE) HBR.out h4).mono ?_;rintro e w4 ⟨rfl,hE4⟩);rw[HMM.out];obtain⟨c1,c2,f1,f2⟩:=(HFW.out w4 hE4).two)
      have hW:Mod (fun k=>k=w.heap.size+1) w4 ((w4.setCell ⟨w.heap.size+1,0,none⟩ (.slice none 0 0)).setCell ⟨w.heap.size+1,1,none⟩ (.bool true)):=
       (by repeat(first|with_reducible exact Mod.refl _ _|refine Mod.drew ?_|refine Mod.drewN ?_ _|refine Mod.set1 ?_ _))
      obtain⟨q0,q1,_,_⟩:=((HFW.out w4 hE4).put2 (.slice none 0 0) (.bool true)).two
      refine bodyPost_ret (v:=.tuple #[.agg #[.slice none 0 0,.bool true],.slice Ao done.length co,.int .i64 5]) (by simp[results,Tryz.results38,go_sem,q0,q1]) rfl ?_
      rw[HBUF.out,ZcL (l:=done) (by rw[HFeed.out,Zd4 h4 (by rw[HMM.out];exact HIN.out)];simp)]
      exact⟨_,_,rfl,ZnZ rfl (by omega) HL.out HO.out HRows.out hE hE4 hW,RdN.nil _ _,by simp[Value.ownBlock],Mod.toExt ((E2.trans hE).trans hE4) hW (by intro k hk;omega)⟩
   ·have hsh:Hid (Zbd r=([],some r)):=zh (ZcJ (by omega))
    have hE4:=Ext.refl wr
    obtain⟨c1,c2,f1,f2⟩:=(HFW.out wr hE4).two
    go_wp2
    have hW:Mod (fun k=>k=w.heap.size+1) wr ((wr.setCell ⟨w.heap.size+1,0,none⟩ (.slice A3 r.length c3)).setCell ⟨w.heap.size+1,1,none⟩ (.bool false)):=
     (by repeat(first|with_reducible exact Mod.refl _ _|refine Mod.drew ?_|refine Mod.drewN ?_ _|refine Mod.set1 ?_ _))
    obtain⟨q0,q1,_,_⟩:=((HFW.out wr hE4).put2 (.slice A3 r.length c3) (.bool false)).two
    refine bodyPost_ret (v:=.tuple #[.agg #[.slice A3 r.length c3,.bool false],.slice Ao done.length co,.int .i64 0]) (by simp[results,Tryz.results38,go_sem,q0,q1]) rfl ?_
    rw[HBUF.out,ZbT (r:=r) (l:=done) (by rw[HFeed.out,hsh.out];simp)]
    exact⟨_,_,rfl,ZnZ rfl (by omega) HL.out HO.out HRows.out hE hE4 hW,(HR.out.ext (hE.trans hE4)).mod hW (fun k hk=>by have:=HK.out k hk;omega),fun k hk=>by have:=HK.out k hk;omega,Mod.toExt ((E2.trans hE).trans hE4) hW (by intro k hk;omega)⟩
 ·go_enter Tryz.func38,Tryz.ntmps38
  go_wp2
  refine bodyPost_ret (v:=.tuple #[.agg #[.slice none 0 0,.bool true],.slice none 0 0,.int .i64 9]) (by simp[results,Tryz.results38,go_sem]) rfl ?_
  exact⟨_,_,rfl,(Zb3.nil _ 0).rd,RdN.nil _ _,by simp[Value.ownBlock],zX⟩
end Go.Proofs.YtmmhcllibpmfnaaGreatDoor.Fr
namespace Go.Proofs.YtmmhcllibpmfnaaGreatDoor
open Go.RowKit Go.Kb Go.Kb.Frame
theorem Zas {P:Program}{fn:Func}{p q q2:Tmp}{ty:TypeId}(h:fn.results=#[.cell p ty,.tmp q,.tmp q2])(tmps:Array Value)(w:World)(g:Nat)(t:TypeId)(cs:Array Value)(fr:Nat×Nat)(d:TypeDesc)
 (hp:tmps.getD p undef= .pointer (some ⟨g,0,none⟩)) (v v2:Value) (hq:tmps.getD q undef=v) (hq2:tmps.getD q2 undef=v2) (hg:w.heap[g]?=some (.cells cs t fr))
 (hu:P.underlying ty=some d) (hd:(match d with| .struct _| .array _ _=>true|_=>false)=true) (hi:(P.info? ty).map (·.size)=some cs.size):
 (results fn tmps).run P w= .ok (.tuple #[.agg cs,v,v2]) w:=by
 have hp':tmps[p]?.getD undef= .pointer (some ⟨g,0,none⟩):=by simpa using hp
 have hq':tmps[q]?.getD undef=v:=by simpa using hq
 have hq2':tmps[q2]?.getD undef=v2:=by simpa using hq2
 simp[results,h,hp',hq',hq2',asAddr,run_loadVar_row w g t ty cs fr d hg hu hd hi]
theorem Ze7 (v:Value)(ks:List Int)(w:World)(h:RI .i64 w v ks)(hr:Zdw ks):Calls Tryz.prog 132 #[v] w fun e w'=>e= .returned (.bool true)∧Ext w w':=by
 obtain⟨A,c,rfl,hc1,hc2⟩:=h.shape
 obtain⟨N,hN⟩:=zm (ks.length)
 have HN:=zh hN
 have H:=zh (show RdN w 1 (.slice A N c) ks.length (ks.map (Value.int .i64)) by rw[←hN];exact h)
 have HR:=zh hr
 rw[hN] at hc1⊢
 clear h hr hN
 go_enter Tryz.func132,Tryz.ntmps132
 go_wp2
 go_loopw [7] (fun i wr=>∃m:Nat,m≤N∧i= .int .i64 m∧wr=w) (fun i _=>N - (intOf i).toNat)
 case atStart=>exact⟨0,Nat.zero_le _,rfl,rfl⟩
 case round=>
  obtain⟨m,hm,rfl,rfl⟩:=hrel
  by_cases hmn:m<N
  ·obtain⟨b,off,x,rfl,hx,hd⟩:=RdN.icell (l:=ks) H.out hmn
   obtain⟨⟨hk1,hk6⟩,h6⟩:=HR.out m x hd.out
   have hk1':¬x<1:=by omega
   have hk6':¬6<x:=by omega
   by_cases hx6:x=6
   ·subst hx6
    have h7:=h6 rfl
    rw[HN.out] at h7
    have h8:((m:Int) != (N:Int) - 1)=false:=by simp;omega
    clear h6 h7
    go_wp2
    exact⟨⟨m+1,by omega,by go_num,trivial⟩,by simp[intOf];omega⟩
   ·have hx1:(x==6)=false:=by simpa using hx6
    clear h6
    go_wp2
    exact⟨⟨m+1,by omega,by go_num,trivial⟩,by simp[intOf];omega⟩
  ·obtain rfl:m=N:=by omega
   go_wp2
   go_ret
   exact⟨rfl,Ext.refl _⟩
def Zcz (k n:Int)(t:List Int)(w:World)(e:Ending)(w':World):Prop:=
 ∃vt,e= .returned (.tuple #[.agg #[.int .i64 k,.int .u32 n,vt,.slice none 0 0],.int .i64 (encF k n t).length,.int .i64 0])∧RdS Ub8 (fun j=>w.heap.size≤j) w' vt t∧Ext w w'
theorem ZrX (v:Value)(n:Int)(r:List Int)(w:World)(h:RI .u8 w v (n::r))(hn:0≤n∧n≤255):Calls Tryz.prog 133 #[.int .i64 1,v] w (Zcz 1 n [] w):=by
 have hiF:=zi Tryz.prog 86 4
 obtain⟨W1,hW1⟩:=zn ((w.alloc (.cells #[.int .i64 0,.int .u32 0,.slice none 0 0,.slice none 0 0] 86)).alloc (.cells #[.int .i64 1,.int .u32 0,.slice none 0 0,.slice none 0 0] 86))
 have E1:Ext w W1:=by rw[hW1];exact((Ext.refl _).alloc _).alloc _
 have B4:=zh (show Blk W1 w.heap.size 86 #[.int .i64 0,.int .u32 0,.slice none 0 0,.slice none 0 0] by rw[hW1];exact(Blk.new w _ _).alloc _)
 have B7:=zh (show Blk W1 (w.heap.size+1) 86 #[.int .i64 1,.int .u32 0,.slice none 0 0,.slice none 0 0] by rw[hW1];exact Blk.at_ _ _ (by simp))
 have HW1:=zh hW1
 obtain⟨A,c,rfl,hc1,hc2⟩:=h.shape
 obtain⟨n4,hn4⟩:=zm (w.heap.size)
 have HN4:=zh hn4
 rw[hn4] at B4 B7
 clear hW1 hn4
 obtain⟨L,hL⟩:=zm ((n::r).length)
 have hL0:¬(L:Int)<1:=by rw[←hL];simp;omega
 have HX:=zh (h.ext E1)
 rw[hL] at hc1⊢
 obtain⟨b,off,cc,hv,-,-,hcell⟩:=HX.out.form (by simp)
 simp only[Value.slice.injEq] at hv
 obtain⟨rfl,-,rfl⟩:=hv
 have kx:=hcell 0 (.int .u8 n) rfl
 rw[Nat.add_zero] at kx
 have hw:IntKind.u32.wrap n=n:=by rw[IntKind.wrap_u32];omega
 clear hcell h hL
 go_enter Tryz.func133,Tryz.ntmps133
 go_upto_region 2 with fail
 rw[←HW1.out,HN4.out]
 clear HW1
 have q7:=B7.out.cell 1
 have f7:=B7.out.frozen 1
 simp only[zG] at q7
 go_upto_region 10 with fail
 have B7:=zh (show Blk (W1.setCell ⟨n4+1,1,none⟩ (.int .u32 n)) (n4+1) 86 #[.int .i64 1,.int .u32 n,.slice none 0 0,.slice none 0 0] by simpa using B7.out.set_ 1 (.int .u32 n))
 have B4:=zh (B4.out.far (p:=⟨n4+1,1,none⟩) (by simp) (.int .u32 n))
 go_wp2_with(first
  |(refine wpList_load_row rfl 86 _ rfl _ rfl 86 _ _ _ B7.out Tryz.underlying86 rfl hiF ?_)
  |(refine wpList_store_M rfl 86 _ _ rfl n4 _ rfl rfl 86 _ B4.out hiF rfl (by simp[Value.oneCell']) ?_;intro w9 P9 M9))
 refine bodyPost_ret_by (Zas Tryz.results133 _ _ n4 86 _ _ _ rfl _ _ rfl rfl P9 Tryz.underlying86 rfl hiF) rfl ?_
 refine⟨.slice none 0 0,by simp[encF],RdS.nil _ _ _,?_⟩
 exact Mod.toExt (Mod.toExt E1 ((Mod.refl (fun k=>k=n4+1) W1).set1 _) (fun k hk he=>by have:=HN4.out;omega)) M9 (fun k hk he=>by have:=HN4.out;omega)
theorem ZrY (v:Value)(n:Int)(r:List Int)(w:World)(h:RI .u8 w v (Fr.four n++r))(hb:Bs (Fr.four n++r)):Calls Tryz.prog 133 #[.int .i64 3,v] w (Zcz 3 n [] w):=by
 have hiF:=zi Tryz.prog 86 4
 obtain⟨W1,hW1⟩:=zn ((w.alloc (.cells #[.int .i64 0,.int .u32 0,.slice none 0 0,.slice none 0 0] 86)).alloc (.cells #[.int .i64 3,.int .u32 0,.slice none 0 0,.slice none 0 0] 86))
 have E1:Ext w W1:=by rw[hW1];exact((Ext.refl _).alloc _).alloc _
 have B4:=zh (show Blk W1 w.heap.size 86 #[.int .i64 0,.int .u32 0,.slice none 0 0,.slice none 0 0] by rw[hW1];exact(Blk.new w _ _).alloc _)
 have B7:=zh (show Blk W1 (w.heap.size+1) 86 #[.int .i64 3,.int .u32 0,.slice none 0 0,.slice none 0 0] by rw[hW1];exact Blk.at_ _ _ (by simp))
 have HW1:=zh hW1
 obtain⟨A,c,rfl,hc1,hc2⟩:=h.shape
 obtain⟨n4,hn4⟩:=zm (w.heap.size)
 have HN4:=zh hn4
 rw[hn4] at B4 B7
 clear hW1 hn4
 obtain⟨L,hL⟩:=zm ((Fr.four n++r).length)
 have hL4:¬(L:Int)<4:=by rw[←hL];simp[Fr.four];omega
 have HNU:=zh (show ∀w',Ext W1 w'→Calls Tryz.prog 65 #[.slice A (Fr.four n++r).length c] w' (fun e w''=>e= .returned (.int .u32 n)∧Ext w' w'') from fun w' E=>by
  have h9:=Fr.ZaF _ _ w' ((h.ext E1).ext E) hb (by simp[Fr.four])
  rw[Fr.Zfj] at h9
  exact h9)
 rw[hL] at hc1 HNU⊢
 clear h hL hb
 go_enter Tryz.func133,Tryz.ntmps133
 go_upto_region 2 with fail
 rw[←HW1.out,HN4.out]
 clear HW1
 go_wp2_with fail
 refine(HNU.out _ (Ext.refl _)).mono ?_
 rintro e w2 ⟨rfl,E2⟩
 have B4:=zh (B4.out.ext E2)
 have B7:=zh (B7.out.ext E2)
 have q7:=B7.out.cell 1
 have f7:=B7.out.frozen 1
 simp only[zG] at q7
 go_upto_region 21 with fail
 have B7:=zh (show Blk (w2.setCell ⟨n4+1,1,none⟩ (.int .u32 n)) (n4+1) 86 #[.int .i64 3,.int .u32 n,.slice none 0 0,.slice none 0 0] by simpa using B7.out.set_ 1 (.int .u32 n))
 have B4:=zh (B4.out.far (p:=⟨n4+1,1,none⟩) (by simp) (.int .u32 n))
 go_wp2_with(first
  |(refine wpList_load_row rfl 86 _ rfl _ rfl 86 _ _ _ B7.out Tryz.underlying86 rfl hiF ?_)
  |(refine wpList_store_M rfl 86 _ _ rfl n4 _ rfl rfl 86 _ B4.out hiF rfl (by simp[Value.oneCell']) ?_;intro w9 P9 M9))
 refine bodyPost_ret_by (Zas Tryz.results133 _ _ n4 86 _ _ _ rfl _ _ rfl rfl P9 Tryz.underlying86 rfl hiF) rfl ?_
 refine⟨.slice none 0 0,by simp[encF,Fr.four],RdS.nil _ _ _,?_⟩
 exact Mod.toExt (Mod.toExt (E1.trans E2) ((Mod.refl (fun k=>k=n4+1) w2).set1 _) (fun k hk he=>by have:=HN4.out;omega)) M9 (fun k hk he=>by have:=HN4.out;omega)
theorem ZrZ (v:Value)(t r:List Int)(w:World)(h:RI .u8 w v (Fr.four t.length++t++r))(ht:t.length≤32768)(hb:Bs (Fr.four t.length++t++r)):Calls Tryz.prog 133 #[.int .i64 4,v] w (Zcz 4 0 t w):=by
 have hiF:=zi Tryz.prog 86 4
 obtain⟨W1,hW1⟩:=zn ((w.alloc (.cells #[.int .i64 0,.int .u32 0,.slice none 0 0,.slice none 0 0] 86)).alloc (.cells #[.int .i64 4,.int .u32 0,.slice none 0 0,.slice none 0 0] 86))
 have E1:Ext w W1:=by rw[hW1];exact((Ext.refl _).alloc _).alloc _
 have B4:=zh (show Blk W1 w.heap.size 86 #[.int .i64 0,.int .u32 0,.slice none 0 0,.slice none 0 0] by rw[hW1];exact(Blk.new w _ _).alloc _)
 have B7:=zh (show Blk W1 (w.heap.size+1) 86 #[.int .i64 4,.int .u32 0,.slice none 0 0,.slice none 0 0] by rw[hW1];exact Blk.at_ _ _ (by simp))
 have HW1:=zh hW1
 obtain⟨A,c,rfl,hc1,hc2⟩:=h.shape
 obtain⟨n4,hn4⟩:=zm (w.heap.size)
 have HN4:=zh hn4
 rw[hn4] at B4 B7
 clear hW1 hn4
 obtain⟨L,hL⟩:=zm ((Fr.four t.length++t++r).length)
 have hLe:L=4+t.length+r.length:=by rw[←hL];simp[Fr.four];omega
 have HNU:=zh (show ∀w',Ext W1 w'→Calls Tryz.prog 65 #[.slice A (Fr.four t.length++t++r).length c] w' (fun e w''=>e= .returned (.int .u32 (t.length:Int))∧Ext w' w'') from fun w' E=>by
  have h9:=Fr.ZaF _ _ w' ((h.ext E1).ext E) hb (by simp[Fr.four])
  rw[List.append_assoc,Fr.Zfj] at h9
  rw[←List.append_assoc] at h9
  exact h9)
 obtain⟨b,off,rfl⟩:=RdN.addr (n:=(Fr.four t.length++t++r).length) h (by rw[hL];omega)
 have HS:=zh (show RI .u8 W1 (.slice (some ⟨b,off+4,none⟩) t.length (c - 4)) t from by
  have h9:=RI.sub_ (h.ext E1) (lo:=4) (m:=t.length) (by rw[hL];omega)
  have h8:((Fr.four t.length++t++r).drop 4).take t.length=t:=by
   rw[List.append_assoc,show(4:Nat)=(Fr.four (t.length:Int)).length by simp[Fr.four],List.drop_left,List.take_left]
  rw[h8] at h9
  exact h9)
 rw[hL] at hc1 HNU⊢
 obtain⟨T,hT⟩:=zm (t.length)
 have HT:=zh hT
 rw[hT] at HNU hLe HS ht
 have hw1:IntKind.u32.wrap (4+(T:Int))=4+(T:Int):=by rw[IntKind.wrap_u32];omega
 have h1:¬(L:Int)<4:=by omega
 have h2:¬(32768:Int)<(T:Int):=by omega
 have h3:¬(L:Int) - 4<(T:Int):=by omega
 have h5:(4:Int)+(T:Int)≤(c:Int):=by omega
 have h6:(4:Int)≤4+(T:Int):=by omega
 have HS:=zh (show RI .u8 W1 (.slice (if c=4 then some ⟨b,off,none⟩ else some ⟨b,off+4,none⟩) T (c - 4)) t from by
  by_cases h4:c=4
  ·rw[if_pos h4]
   have ht0:t=[]:=List.eq_nil_of_length_eq_zero (by rw[hT];omega)
   have hT0:T=0:=by omega
   subst ht0 hT0
   exact⟨rfl,_,_,rfl,Nat.zero_le _,by omega,.inl (by omega)⟩
  ·rw[if_neg h4]
   have h9:=HS.out
   rw[←hT] at h9
   rw[←hT]
   exact h9)
 obtain⟨Z,hZ⟩:=zm ((if c=4 then some (⟨b,off,none⟩:Addr) else some ⟨b,off+4,none⟩))
 have HZ:=zh hZ
 rw[hZ] at HS
 clear h hL hb hT hLe hZ
 go_enter Tryz.func133,Tryz.ntmps133
 go_upto_region 2 with fail
 rw[←HW1.out,HN4.out]
 clear HW1
 go_wp2_with fail
 refine(HNU.out _ (Ext.refl _)).mono ?_
 rintro e w2 ⟨rfl,E2⟩
 have B4:=zh (B4.out.ext E2)
 have B7:=zh (B7.out.ext E2)
 have HS:=zh (HS.out.ext E2)
 go_upto_region 29 with fail
 rw[HZ.out,show 4+T - 4=T from Nat.add_sub_cancel_left ..]
 have q7:=B7.out.cell 2
 have hzb:=B7.out.lt
 go_upto_region 31 with(at_builtin;refine wpList_app (e:=Ub8) (base:=w2.heap.size) (B:=fun _=>False) (A:=fun _=>False) rfl (.tmp 73) (.tmp 74) rfl Tryz.underlying43 ZaQ rfl (OwnS.emptyB Ub8 _ (Blk.new w2 _ _) (Nat.le_refl _)) rfl (RI.y (RdN.alloc HS.out _)) rfl (fun _ _ h=>h.elim) (N:=T) (by rw[HT.out];simp) (by unfold maxLen;omega) (by omega) (by simp) ?_;intro A9 c9 w8 o8 M8 _;have M28:=zh (show Mod (fun k=>k=w2.heap.size) w2 w8 from((Mod.refl _ w2).alloc _).trans (M8.mono (fun k _ hk=>by have h9:some w2.heap.size=some k:=hk;exact(Option.some.inj h9).symm)));have B78:=zh (B7.out.mod M28.out (by omega));have q8:=B78.out.cell 2;have f8:=B78.out.frozen 2;simp only[zG] at q8)
 rw[List.nil_append] at o8
 have O8:=zh o8
 have hz2:=E2.size
 have hro:=o8.row
 have B7:=zh (show Blk (w8.setCell ⟨n4+1,2,none⟩ (.slice A9 T c9)) (n4+1) 86 #[.int .i64 4,.int .u32 0,.slice A9 T c9,.slice none 0 0] by simpa using B78.out.set_ 2 (.slice A9 T c9))
 have B4:=zh ((B4.out.mod M28.out (by omega)).far (p:=⟨n4+1,2,none⟩) (by simp) (.slice A9 T c9))
 have M7:=zh (show Mod (fun k=>k=n4+1) w8 (w8.setCell ⟨n4+1,2,none⟩ (.slice A9 T c9)) from(Mod.refl _ _).set1 _)
 generalize w8.setCell ⟨n4+1,2,none⟩ (.slice A9 T c9)=w7 at*
 have hn4w:=HN4.out
 have hzb1:=E1.size
 clear o8 M8 q8 f8 B78 HS q7
 go_wp2_with(first
  |(refine wpList_load_row rfl 86 _ rfl _ rfl 86 _ _ _ B7.out Tryz.underlying86 rfl hiF ?_)
  |(refine wpList_store_M rfl 86 _ _ rfl n4 _ rfl rfl 86 _ B4.out hiF rfl (by simp[Value.oneCell']) ?_;intro w9 P9 M9))
 refine bodyPost_ret_by (Zas Tryz.results133 _ _ n4 86 _ _ _ rfl _ _ rfl rfl P9 Tryz.underlying86 rfl hiF) rfl ?_
 refine⟨.slice A9 T c9,by simp[encF,Fr.four,HT.out];omega,?_,?_⟩
 ·exact((O8.out.mod M7.out (fun k hk he=>by have:=hro k hk;omega) (fun k _ hk=>hk.elim)).mod M9 (fun k hk he=>by have:=hro k hk;omega) (fun k _ hk=>hk.elim)).rd (fun k hk=>by omega) (fun k hk=>hk.elim)
 ·exact Mod.toExt (Mod.toExt (Mod.toExt (E1.trans E2) M28.out (fun k hk he=>by omega)) M7.out (fun k hk he=>by omega)) M9 (fun k hk he=>by omega)
theorem Zr0 (v:Value)(t:List Int)(w:World)(h:RI .u8 w v t)(ht:t.length≤33792):Calls Tryz.prog 133 #[.int .i64 6,v] w (Zcz 6 0 t w):=by
 have hiF:=zi Tryz.prog 86 4
 obtain⟨W1,hW1⟩:=zn ((w.alloc (.cells #[.int .i64 0,.int .u32 0,.slice none 0 0,.slice none 0 0] 86)).alloc (.cells #[.int .i64 6,.int .u32 0,.slice none 0 0,.slice none 0 0] 86))
 have E1:Ext w W1:=by rw[hW1];exact((Ext.refl _).alloc _).alloc _
 have B4:=zh (show Blk W1 w.heap.size 86 #[.int .i64 0,.int .u32 0,.slice none 0 0,.slice none 0 0] by rw[hW1];exact(Blk.new w _ _).alloc _)
 have B7:=zh (show Blk W1 (w.heap.size+1) 86 #[.int .i64 6,.int .u32 0,.slice none 0 0,.slice none 0 0] by rw[hW1];exact Blk.at_ _ _ (by simp))
 have HW1:=zh hW1
 obtain⟨A,c,rfl,hc1,hc2⟩:=h.shape
 obtain⟨n4,hn4⟩:=zm (w.heap.size)
 have HN4:=zh hn4
 rw[hn4] at B4 B7
 clear hW1 hn4
 obtain⟨T,hT⟩:=zm (t.length)
 have HT:=zh hT
 have HS:=zh (show RI .u8 W1 (.slice A T c) t from by
  have h9:=h.ext E1
  rw[←hT]
  exact h9)
 rw[hT] at ht hc1⊢
 have h2:¬(33792:Int)<(T:Int):=by omega
 clear h hT
 go_enter Tryz.func133,Tryz.ntmps133
 go_upto_region 14 with fail
 rw[←HW1.out,HN4.out]
 clear HW1
 have hzb:=B7.out.lt
 go_upto_region 15 with(at_builtin;refine wpList_app (e:=Ub8) (base:=W1.heap.size) (B:=fun _=>False) (A:=fun _=>False) rfl (.tmp 39) (.tmp 40) rfl Tryz.underlying43 ZaQ rfl (OwnS.emptyB Ub8 _ (Blk.new W1 _ _) (Nat.le_refl _)) rfl (RI.y (RdN.alloc HS.out _)) rfl (fun _ _ h=>h.elim) (N:=T) (by rw[HT.out];simp) (by unfold maxLen;omega) (by omega) (by simp) ?_;intro A9 c9 w8 o8 M8 _;have M28:=zh (show Mod (fun k=>k=W1.heap.size) W1 w8 from((Mod.refl _ W1).alloc _).trans (M8.mono (fun k _ hk=>by have h9:some W1.heap.size=some k:=hk;exact(Option.some.inj h9).symm)));have B78:=zh (B7.out.mod M28.out (by omega));have q8:=B78.out.cell 2;have f8:=B78.out.frozen 2;simp only[zG] at q8)
 rw[List.nil_append] at o8
 have O8:=zh o8
 have hro:=o8.row
 have B7:=zh (show Blk (w8.setCell ⟨n4+1,2,none⟩ (.slice A9 T c9)) (n4+1) 86 #[.int .i64 6,.int .u32 0,.slice A9 T c9,.slice none 0 0] by simpa using B78.out.set_ 2 (.slice A9 T c9))
 have B4:=zh ((B4.out.mod M28.out (by omega)).far (p:=⟨n4+1,2,none⟩) (by simp) (.slice A9 T c9))
 have M7:=zh (show Mod (fun k=>k=n4+1) w8 (w8.setCell ⟨n4+1,2,none⟩ (.slice A9 T c9)) from(Mod.refl _ _).set1 _)
 generalize w8.setCell ⟨n4+1,2,none⟩ (.slice A9 T c9)=w7 at*
 have hn4w:=HN4.out
 have hzb1:=E1.size
 clear o8 M8 q8 f8 B78 HS
 go_wp2_with(first
  |(refine wpList_load_row rfl 86 _ rfl _ rfl 86 _ _ _ B7.out Tryz.underlying86 rfl hiF ?_)
  |(refine wpList_store_M rfl 86 _ _ rfl n4 _ rfl rfl 86 _ B4.out hiF rfl (by simp[Value.oneCell']) ?_;intro w9 P9 M9))
 refine bodyPost_ret_by (Zas Tryz.results133 _ _ n4 86 _ _ _ rfl _ _ rfl rfl P9 Tryz.underlying86 rfl hiF) rfl ?_
 refine⟨.slice A9 T c9,by simp[encF,HT.out],?_,?_⟩
 ·exact((O8.out.mod M7.out (fun k hk he=>by have:=hro k hk;omega) (fun k _ hk=>hk.elim)).mod M9 (fun k hk he=>by have:=hro k hk;omega) (fun k _ hk=>hk.elim)).rd (fun k hk=>by omega) (fun k hk=>hk.elim)
 ·exact Mod.toExt (Mod.toExt (Mod.toExt E1 M28.out (fun k hk he=>by omega)) M7.out (fun k hk he=>by omega)) M9 (fun k hk he=>by omega)
end Go.Proofs.YtmmhcllibpmfnaaGreatDoor
