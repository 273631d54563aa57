/- Parts OG04 OH04 OI04 OJ04 OK04 OL04 OM04 ON04 OO04 OP04 OQ04 OT04. No condition. -/
import Derived.Test.YtmmhcllibpmfnaaGreatDoorYB02
import Derived.Lib.ConvBytes
import Derived.Laws.IdiomStrings
import Derived.Deep.DeepCutAuto
set_option maxRecDepth 100000
set_option maxHeartbeats 8000000
namespace Go.Proofs.YtmmhcllibpmfnaaGreatDoor
open Go.RowKit Go.Kb
structure Mg where
 k:Int
 ch:Int
 se:Int
 wi:Int
 pk:Int
 co:Int
 nm:ByteArray
 la:ByteArray
 wa:Bool
 da:List Int
abbrev mgA (m:Mg)(v:Value):Array Value:=#[.int .i64 m.k,.int .u32 m.ch,.int .u32 m.se,.int .u32 m.wi,.int .u32 m.pk,.int .u32 m.co,.string m.nm,.string m.la,.bool m.wa,v]
def bsL (s:ByteArray):List Int:=s.data.toList.map fun x=>(x.toNat:Int)
def ZjR (A:Nat→Prop)(n:Int)(t:List Int)(w:World)(e:Ending)(w':World):Prop:=
 ∃vt,e= .returned (.agg #[.int .i64 0,.int .u32 n,vt,.slice none 0 0])∧RdS Ub8 (fun k=>A k∨w.heap.size≤k) w' vt t∧Ext w w'
structure MgC (w:World)(g:Nat)(m:Mg)(v:Value):Prop where
 k0:w.cell? ⟨g,0,none⟩=some (.int .i64 m.k)
 k1:w.cell? ⟨g,1,none⟩=some (.int .u32 m.ch)
 k2:w.cell? ⟨g,2,none⟩=some (.int .u32 m.se)
 k3:w.cell? ⟨g,3,none⟩=some (.int .u32 m.wi)
 k4:w.cell? ⟨g,4,none⟩=some (.int .u32 m.pk)
 k5:w.cell? ⟨g,5,none⟩=some (.int .u32 m.co)
 k6:w.cell? ⟨g,6,none⟩=some (.string m.nm)
 k7:w.cell? ⟨g,7,none⟩=some (.string m.la)
 k8:w.cell? ⟨g,8,none⟩=some (.bool m.wa)
 k9:w.cell? ⟨g,9,none⟩=some v
theorem mgC {w:World}{g:Nat}{t:TypeId}{m:Mg}{v:Value}(h:Blk w g t (mgA m v)):MgC w g m v:=
 ⟨by simpa using h.cell 0,by simpa using h.cell 1,by simpa using h.cell 2,by simpa using h.cell 3,by simpa using h.cell 4,by simpa using h.cell 5,by simpa using h.cell 6,by simpa using h.cell 7,by simpa using h.cell 8,by simpa using h.cell 9⟩
theorem Zmf (g:Nat)(m:Mg)(v:Value)(A:Nat→Prop)(w:World)(h:Blk w g 224 (mgA m v)):Calls Tryz.prog 230 #[.pointer (some ⟨g,0,none⟩)] w (ZjR A m.co [] w):=by
 have hi:=zi Tryz.prog 86 4
 have kc:=(mgC (h.ext ((Ext.refl w).alloc (.cells #[.int .i64 0,.int .u32 0,.slice none 0 0,.slice none 0 0] 86)))).k5
 clear h
 go_enter Tryz.func230,Tryz.ntmps230
 go_wp2_with(refine wpList_store_A rfl 86 _ _ rfl w.heap.size _ rfl rfl 86 _ (show Blk _ _ _ _ from Blk.at_ _ _ (by simp)) hi rfl (by simp[Value.oneCell']) ?_;intro w2 HB E2;have E2:=E2 w.heap.size w zX (Nat.le_refl _))
 refine bodyPost_ret_by (results_cell_row Tryz.results230 _ _ w.heap.size 86 _ _ _ rfl HB Tryz.underlying86 rfl hi) rfl ?_
 exact⟨_,rfl,RdS.nil _ _ _,E2⟩
theorem ZiI (g:Nat)(m:Mg)(v:Value)(A:Nat→Prop)(w:World)(h:Blk w g 224 (mgA m v)):Calls Tryz.prog 240 #[.pointer (some ⟨g,0,none⟩)] w (ZjR A m.se [] w):=by
 have hi:=zi Tryz.prog 86 4
 have kc:=(mgC (h.ext ((Ext.refl w).alloc (.cells #[.int .i64 0,.int .u32 0,.slice none 0 0,.slice none 0 0] 86)))).k2
 clear h
 go_enter Tryz.func240,Tryz.ntmps240
 go_wp2_with(refine wpList_store_A rfl 86 _ _ rfl w.heap.size _ rfl rfl 86 _ (show Blk _ _ _ _ from Blk.at_ _ _ (by simp)) hi rfl (by simp[Value.oneCell']) ?_;intro w2 HB E2;have E2:=E2 w.heap.size w zX (Nat.le_refl _))
 refine bodyPost_ret_by (results_cell_row Tryz.results240 _ _ w.heap.size 86 _ _ _ rfl HB Tryz.underlying86 rfl hi) rfl ?_
 exact⟨_,rfl,RdS.nil _ _ _,E2⟩
theorem ZiJ (g:Nat)(m:Mg)(v:Value)(A:Nat→Prop)(w:World)(h:Blk w g 224 (mgA m v)):Calls Tryz.prog 242 #[.pointer (some ⟨g,0,none⟩)] w (ZjR A m.wi [] w):=by
 have hi:=zi Tryz.prog 86 4
 have kc:=(mgC (h.ext ((Ext.refl w).alloc (.cells #[.int .i64 0,.int .u32 0,.slice none 0 0,.slice none 0 0] 86)))).k3
 clear h
 go_enter Tryz.func242,Tryz.ntmps242
 go_wp2_with(refine wpList_store_A rfl 86 _ _ rfl w.heap.size _ rfl rfl 86 _ (show Blk _ _ _ _ from Blk.at_ _ _ (by simp)) hi rfl (by simp[Value.oneCell']) ?_;intro w2 HB E2;have E2:=E2 w.heap.size w zX (Nat.le_refl _))
 refine bodyPost_ret_by (results_cell_row Tryz.results242 _ _ w.heap.size 86 _ _ _ rfl HB Tryz.underlying86 rfl hi) rfl ?_
 exact⟨_,rfl,RdS.nil _ _ _,E2⟩
theorem ZiK (g:Nat)(m:Mg)(v:Value)(A:Nat→Prop)(w:World)(h:Blk w g 224 (mgA m v)):Calls Tryz.prog 244 #[.pointer (some ⟨g,0,none⟩)] w (ZjR A m.pk [] w):=by
 have hi:=zi Tryz.prog 86 4
 have kc:=(mgC (h.ext ((Ext.refl w).alloc (.cells #[.int .i64 0,.int .u32 0,.slice none 0 0,.slice none 0 0] 86)))).k4
 clear h
 go_enter Tryz.func244,Tryz.ntmps244
 go_wp2_with(refine wpList_store_A rfl 86 _ _ rfl w.heap.size _ rfl rfl 86 _ (show Blk _ _ _ _ from Blk.at_ _ _ (by simp)) hi rfl (by simp[Value.oneCell']) ?_;intro w2 HB E2;have E2:=E2 w.heap.size w zX (Nat.le_refl _))
 refine bodyPost_ret_by (results_cell_row Tryz.results244 _ _ w.heap.size 86 _ _ _ rfl HB Tryz.underlying86 rfl hi) rfl ?_
 exact⟨_,rfl,RdS.nil _ _ _,E2⟩
theorem Zmg (g:Nat)(m:Mg)(v:Value)(A:Nat→Prop)(w:World)(h:Blk w g 224 (mgA m v)):Calls Tryz.prog 246 #[.pointer (some ⟨g,0,none⟩)] w (ZjR A m.ch [] w):=by
 have hi:=zi Tryz.prog 86 4
 have kc:=(mgC (h.ext ((Ext.refl w).alloc (.cells #[.int .i64 0,.int .u32 0,.slice none 0 0,.slice none 0 0] 86)))).k1
 clear h
 go_enter Tryz.func246,Tryz.ntmps246
 go_wp2_with(refine wpList_store_A rfl 86 _ _ rfl w.heap.size _ rfl rfl 86 _ (show Blk _ _ _ _ from Blk.at_ _ _ (by simp)) hi rfl (by simp[Value.oneCell']) ?_;intro w2 HB E2;have E2:=E2 w.heap.size w zX (Nat.le_refl _))
 refine bodyPost_ret_by (results_cell_row Tryz.results246 _ _ w.heap.size 86 _ _ _ rfl HB Tryz.underlying86 rfl hi) rfl ?_
 exact⟨_,rfl,RdS.nil _ _ _,E2⟩
theorem Zmh (g:Nat)(m:Mg)(v:Value)(A:Nat→Prop)(w:World)(h:Blk w g 224 (mgA m v)):Calls Tryz.prog 238 #[.pointer (some ⟨g,0,none⟩)] w (ZjR A (if m.wa=true then 1 else 0) [] w):=by
 have hi:=zi Tryz.prog 86 4
 have kc:=(mgC (h.ext ((Ext.refl w).alloc (.cells #[.int .i64 0,.int .u32 0,.slice none 0 0,.slice none 0 0] 86)))).k8
 obtain⟨x,hx⟩:=zm (m.wa)
 rw[hx] at kc⊢
 clear h hx
 cases x with
 |true=>
  go_enter Tryz.func238,Tryz.ntmps238
  go_wp2_with(refine wpList_store_A rfl 86 _ _ rfl w.heap.size _ rfl rfl 86 _ (show Blk _ _ _ _ from Blk.at_ _ _ (by simp)) hi rfl (by simp[Value.oneCell']) ?_;intro w2 HB E2;have E2:=E2 w.heap.size w zX (Nat.le_refl _))
  refine bodyPost_ret_by (results_cell_row Tryz.results238 _ _ w.heap.size 86 _ _ _ rfl HB Tryz.underlying86 rfl hi) rfl ?_
  exact⟨_,rfl,RdS.nil _ _ _,E2⟩
 |false=>
  go_enter Tryz.func238,Tryz.ntmps238
  go_wp2_with(refine wpList_store_A rfl 86 _ _ rfl w.heap.size _ rfl rfl 86 _ (show Blk _ _ _ _ from Blk.at_ _ _ (by simp)) hi rfl (by simp[Value.oneCell']) ?_;intro w2 HB E2;have E2:=E2 w.heap.size w zX (Nat.le_refl _))
  refine bodyPost_ret_by (results_cell_row Tryz.results238 _ _ w.heap.size 86 _ _ _ rfl HB Tryz.underlying86 rfl hi) rfl ?_
  exact⟨_,rfl,RdS.nil _ _ _,E2⟩
theorem ZhV (g:Nat)(m:Mg)(v:Value)(A:Nat→Prop)(w:World)(h:Blk w g 224 (mgA m v))(hv:RdS Ub8 A w v m.da):Calls Tryz.prog 232 #[.pointer (some ⟨g,0,none⟩)] w (ZjR A 0 m.da w):=by
 have hi:=zi Tryz.prog 86 4
 obtain⟨Ad,c,rfl,-,-⟩:=hv.shape
 have HV:=zh hv
 have kc:=(mgC (h.ext ((Ext.refl w).alloc (.cells #[.int .i64 0,.int .u32 0,.slice none 0 0,.slice none 0 0] 86)))).k9
 clear h hv
 go_enter Tryz.func232,Tryz.ntmps232
 go_wp2_with(refine wpList_store_A rfl 86 _ _ rfl w.heap.size _ rfl rfl 86 _ (show Blk _ _ _ _ from Blk.at_ _ _ (by simp)) hi rfl (by simp[Value.oneCell']) ?_;intro w2 HB E2;have E2:=E2 w.heap.size w zX (Nat.le_refl _))
 refine bodyPost_ret_by (results_cell_row Tryz.results232 _ _ w.heap.size 86 _ _ _ rfl HB Tryz.underlying86 rfl hi) rfl ?_
 exact⟨_,rfl,(HV.out.ext E2).mono (fun _ _ hk=>.inl hk),E2⟩
theorem ZcM (s:ByteArray):(bsL s).length=s.size:=by simp[bsL]
theorem ZqU {w:World}{n:Nat}(s:ByteArray)(cap:Nat)(e:TypeId)(fr:Nat×Nat)(hn:w.heap.size=n)(h1:s.size≤cap)(h2:cap≤maxLen):RI .u8 (w.alloc (.cells (bytesRow s cap) e fr)) (.slice (some ⟨n,0,none⟩) s.size cap) (bsL s):=by
 subst hn
 refine⟨by simp,_,cap,by rw[ZcM],by rw[ZcM];exact h1,h2,.inr ⟨_,_,rfl,fun j u hu=>?_⟩⟩
 have h:(w.alloc (.cells (bytesRow s cap) e fr)).cell? ⟨w.heap.size,0+j,none⟩=(bytesRow s cap)[0+j]?:=cell_of_row _ _ _ _ e fr (heap_alloc_new w _)
 rw[h,Nat.zero_add]
 simp only[bsL,List.map_map,List.getElem?_map] at hu
 cases hj:s.data.toList[j]? with
 |none=>rw[hj] at hu;cases hu
 |some b=>
  rw[hj] at hu
  rw[Array.getElem?_toList] at hj
  obtain⟨hlt,hb⟩:=Array.getElem?_eq_some_iff.1 hj
  rw[bytesRow_at s cap j hlt,hb]
  simpa using hu
theorem Zg3 {w:World}{n:Nat}(s:ByteArray)(cap:Nat)(e:TypeId)(fr:Nat×Nat)(hn:w.heap.size=n)(h1:s.size≤cap)(h2:cap≤maxLen):RdS Ub8 (fun k=>k=n) (w.alloc (.cells (bytesRow s cap) e fr)) (.slice (some ⟨n,0,none⟩) s.size cap) (bsL s):=
 ⟨RI.y (ZqU s cap e fr hn h1 h2),fun _ k hk=>by simp only[Value.ownBlock,Option.some.injEq] at hk;exact hk.symm⟩
theorem ZbV {w:World}{g:Nat}(cs:Array Value):Mod (fun k=>k=g) w (w.setRow g cs):=by
 have h:=Zah (Below.refl 0 w) (Nat.zero_le g) cs
 exact⟨h.os,h.tape,h.output,h.size,fun k _ hn=>setRow_other w g k cs hn⟩
theorem Zmi (g:Nat)(m:Mg)(v:Value)(A:Nat→Prop)(w:World)(h:Blk w g 224 (mgA m v))(hs:m.nm.size≤1000000):Calls Tryz.prog 236 #[.pointer (some ⟨g,0,none⟩)] w (ZjR A 0 (bsL m.nm) w):=by
 have hi:=zi Tryz.prog 86 4
 have HCV:∀ (b:ByteArray) w',(convert 9 43 (.string b)).run Tryz.prog w'=_:=fun b w'=>run_bytes_of_string w' 9 43 5 b Tryz.underlying9 Tryz.underlying43 Tryz.underlying5
 have kc:=(mgC (h.ext ((Ext.refl w).alloc (.cells #[.int .i64 0,.int .u32 0,.slice none 0 0,.slice none 0 0] 86)))).k6
 obtain⟨s,hs9⟩:=zm (m.nm)
 rw[hs9] at kc hs⊢
 have B0:=zh (Blk.new w 86 #[.int .i64 0,.int .u32 0,.slice none 0 0,.slice none 0 0])
 clear h hs9
 go_enter Tryz.func236,Tryz.ntmps236
 go_wp2_with(refine wpList_store_row rfl 86 _ _ rfl w.heap.size _ rfl rfl 86 _ (B0.out.ext zX) hi rfl (by simp[Value.oneCell']) ?_)
 refine bodyPost_ret_by (results_cell_row Tryz.results236 _ _ w.heap.size 86 _ _ _ rfl (Blk.setRow (B0.out.ext zX) _) Tryz.underlying86 rfl hi) rfl ?_
 refine⟨_,rfl,RdS.mono (RdS.mod (RdS.ext (Zg3 s _ _ _ (n:=w.heap.size+1) (by simp) (grownCap_ge _ _ _ _) (grownCap_le_maxLen _ _ _ _ (by simp[maxLen];omega))) (Ext.drew (Ext.refl _))) (ZbV _) (fun k _ hk=>by omega)) (fun k _ hk=>.inr (by omega)),Zah (show Below w.heap.size w _ from zX) (Nat.le_refl _) _⟩
theorem Zmj (g:Nat)(m:Mg)(v:Value)(A:Nat→Prop)(w:World)(h:Blk w g 224 (mgA m v))(hs:m.la.size≤1000000):Calls Tryz.prog 234 #[.pointer (some ⟨g,0,none⟩)] w (ZjR A 0 (bsL m.la) w):=by
 have hi:=zi Tryz.prog 86 4
 have HCV:∀ (b:ByteArray) w',(convert 9 43 (.string b)).run Tryz.prog w'=_:=fun b w'=>run_bytes_of_string w' 9 43 5 b Tryz.underlying9 Tryz.underlying43 Tryz.underlying5
 have kc:=(mgC (h.ext ((Ext.refl w).alloc (.cells #[.int .i64 0,.int .u32 0,.slice none 0 0,.slice none 0 0] 86)))).k7
 obtain⟨s,hs9⟩:=zm (m.la)
 rw[hs9] at kc hs⊢
 have B0:=zh (Blk.new w 86 #[.int .i64 0,.int .u32 0,.slice none 0 0,.slice none 0 0])
 clear h hs9
 go_enter Tryz.func234,Tryz.ntmps234
 go_wp2_with(refine wpList_store_row rfl 86 _ _ rfl w.heap.size _ rfl rfl 86 _ (B0.out.ext zX) hi rfl (by simp[Value.oneCell']) ?_)
 refine bodyPost_ret_by (results_cell_row Tryz.results234 _ _ w.heap.size 86 _ _ _ rfl (Blk.setRow (B0.out.ext zX) _) Tryz.underlying86 rfl hi) rfl ?_
 refine⟨_,rfl,RdS.mono (RdS.mod (RdS.ext (Zg3 s _ _ _ (n:=w.heap.size+1) (by simp) (grownCap_ge _ _ _ _) (grownCap_le_maxLen _ _ _ _ (by simp[maxLen];omega))) (Ext.drew (Ext.refl _))) (ZbV _) (fun k _ hk=>by omega)) (fun k _ hk=>.inr (by omega)),Zah (show Below w.heap.size w _ from zX) (Nat.le_refl _) _⟩
theorem ZhW (s:ByteArray)(j:Nat)(h:j<s.size):∃c:Int,Hid ((bsL s)[j]?=some c)∧∀w,(Instr.index 9 (.string s) (.int .i64 j)).run Tryz.prog w= .ok (.int .u8 c) w:=by
 refine⟨((s[j]).toNat:Int),zh ?_,fun w=>?_⟩
 ·have h1:s.data.toList[j]?=some s[j]:=by
   rw[Array.getElem?_toList]
   exact Array.getElem?_eq_getElem h
  simp[bsL,h1]
 ·rw[run_index_string w _ s .i64 j Tryz.underlying9,dif_pos ⟨by omega,by omega⟩]
  simp
def ZiL (s:ByteArray)(least:Int):Prop:=least≤s.size∧s.size≤64∧∀c∈bsL s,33≤c∧c≤126
def PrP (s:ByteArray)(least:Int)(w:World)(e:Ending)(w':World):Prop:=∃q:Bool,e= .returned (.bool q)∧(q=true↔ZiL s least)∧Ext w w'
theorem Zcp (s:ByteArray)(least:Int)(w:World)(hs:s.size≤1000000):Calls Tryz.prog 171 #[.string s,.int .i64 least] w (PrP s least w):=by
 have HL:=zh (ZcM s)
 have HIX:=zh (ZhW s)
 obtain⟨N,hN⟩:=zm (s.size)
 have HN:=zh hN
 have hg:goInt (s.size:Int)= .int .i64 (N:Int):=by rw[hN];rfl
 by_cases h1:(N:Int)<least
 ·go_enter Tryz.func171,Tryz.ntmps171
  go_wp2
  go_ret
  exact⟨false,rfl,by simp[ZiL,hN];omega,zX⟩
 ·by_cases h2:64<N
  ·have h3:(64:Int)<N:=by omega
   go_enter Tryz.func171,Tryz.ntmps171
   go_wp2
   go_ret
   exact⟨false,rfl,by simp[ZiL,hN];omega,zX⟩
  ·have h3:¬(64:Int)<N:=by omega
   go_enter Tryz.func171,Tryz.ntmps171
   go_wp2
   go_loopw [17] (fun i wr=>∃m:Nat,m≤N∧i= .int .i64 m∧Hid (∀c∈(bsL s).take m,33≤c∧c≤126)∧Hid (Ext w wr)) (fun i _=>N - (intOf i).toNat)
   case atStart=>exact⟨0,Nat.zero_le _,rfl,zh (by simp),zh (Ext.refl _)⟩
   case round=>
    obtain⟨m,hm,rfl,HC,hE⟩:=hrel
    by_cases hmn:m<N
    ·obtain⟨c,hc,hix⟩:=HIX.out m (by rw[hN];exact hmn)
     by_cases c1:c<33
     ·go_wp2
      go_ret
      refine⟨false,rfl,?_,hE.out⟩
      simp only[Bool.false_eq_true,false_iff]
      intro hh
      have:=(hh.2.2 c (List.mem_of_getElem? hc.out)).1
      omega
     ·by_cases c2:126<c
      ·go_wp2
       go_ret
       refine⟨false,rfl,?_,hE.out⟩
       simp only[Bool.false_eq_true,false_iff]
       intro hh
       have:=(hh.2.2 c (List.mem_of_getElem? hc.out)).2
       omega
      ·go_wp2
       go_roundw
       case rel=>exact⟨m+1,by omega,by go_num,zh (by
        rw[List.take_add_one,hc.out]
        intro x hx
        rcases List.mem_append.1 hx with h|h
        ·exact HC.out x h
        ·simp at h;rw[h];omega),hE⟩
       case measure=>simp[intOf];omega
    ·obtain rfl:m=N:=by omega
     go_wp2
     go_ret
     refine⟨true,rfl,?_,hE.out⟩
     simp only[true_iff]
     refine⟨by rw[hN];omega,by rw[hN];omega,?_⟩
     have h9:=HC.out
     rw[←HN.out,←HL.out,List.take_length] at h9
     exact h9
def FitP (m:Mg):Prop:=if m.k=80∨m.k=90∨m.k=98 then ZiL m.nm 1 else if m.k=1∨m.k=92 then ZiL m.la 0 else True
def Zo3 (m:Mg)(w:World)(e:Ending)(w':World):Prop:=∃q:Bool,e= .returned (.bool q)∧(q=true↔FitP m)∧Ext w w'
theorem ZfZ (m:Mg)(v:Value)(w:World)(h1:m.nm.size≤1000000)(h2:m.la.size≤1000000):Calls Tryz.prog 82 #[.agg (mgA m v)] w (Zo3 m w):=by
 have HN:=zh (fun w'=>Zcp m.nm 1 w' h1)
 have HL:=zh (fun w'=>Zcp m.la 0 w' h2)
 obtain⟨k,ch,se,wi,pk,co,nm,la,wa,da⟩:=m
 dsimp only at HN HL h1 h2
 by_cases hk:k=80∨k=90∨k=98∨k=1∨k=92
 ·rcases hk with rfl|rfl|rfl|rfl|rfl
  ·go_enter Tryz.func82,Tryz.ntmps82
   go_wp2_with fail
   refine(HN.out _).mono ?_
   rintro e w1 ⟨q,rfl,hq,E1⟩
   have HQ:=zh hq
   have E01:Ext w w1:=zX
   clear hq
   go_wp2
   go_ret
   exact⟨q,rfl,by rw[HQ.out];simp[FitP],E01⟩
  ·go_enter Tryz.func82,Tryz.ntmps82
   go_wp2_with fail
   refine(HN.out _).mono ?_
   rintro e w1 ⟨q,rfl,hq,E1⟩
   have HQ:=zh hq
   have E01:Ext w w1:=zX
   clear hq
   go_wp2
   go_ret
   exact⟨q,rfl,by rw[HQ.out];simp[FitP],E01⟩
  ·go_enter Tryz.func82,Tryz.ntmps82
   go_wp2_with fail
   refine(HN.out _).mono ?_
   rintro e w1 ⟨q,rfl,hq,E1⟩
   have HQ:=zh hq
   have E01:Ext w w1:=zX
   clear hq
   go_wp2
   go_ret
   exact⟨q,rfl,by rw[HQ.out];simp[FitP],E01⟩
  ·go_enter Tryz.func82,Tryz.ntmps82
   go_wp2_with fail
   refine(HL.out _).mono ?_
   rintro e w1 ⟨q,rfl,hq,E1⟩
   have HQ:=zh hq
   have E01:Ext w w1:=zX
   clear hq
   go_wp2
   go_ret
   exact⟨q,rfl,by rw[HQ.out];simp[FitP],E01⟩
  ·go_enter Tryz.func82,Tryz.ntmps82
   go_wp2_with fail
   refine(HL.out _).mono ?_
   rintro e w1 ⟨q,rfl,hq,E1⟩
   have HQ:=zh hq
   have E01:Ext w w1:=zX
   clear hq
   go_wp2
   go_ret
   exact⟨q,rfl,by rw[HQ.out];simp[FitP],E01⟩
 ·simp only[not_or] at hk
  obtain⟨h80,h90,h98,h01,h92⟩:=hk
  have i80:(k==80)=false:=by simpa using h80
  have i90:(k==90)=false:=by simpa using h90
  have i98:(k==98)=false:=by simpa using h98
  have i1:(k==1)=false:=by simpa using h01
  have i92:(k==92)=false:=by simpa using h92
  go_enter Tryz.func82,Tryz.ntmps82
  go_wp2
  go_ret
  exact⟨true,rfl,by simp[FitP,h80,h90,h98,h01,h92],zX⟩
theorem Mod.setRow {S:Nat→Prop}{a w:World}(h:Mod S a w){g:Nat}(hg:a.heap.size≤g∨S g)(cs:Array Value):Mod S a (w.setRow g cs):=by
 have h9:=ZbV (w:=w) (g:=g) cs
 refine⟨h9.os.trans h.os,h9.tape.trans h.tape,h9.output.trans h.output,Nat.le_trans h.size h9.size,fun k hk hn=>(h9.block k (Nat.lt_of_lt_of_le hk h.size) ?_).trans (h.block k hk hn)⟩
 rintro rfl
 rcases hg with h1|h1
 ·omega
 ·exact hn h1
theorem Mod.transN {S T:Nat→Prop}{a b c:World}(h:Mod S a b)(k:Mod T b c)(hT:∀i,i<a.heap.size→T i→S i):Mod S a c:=
 ⟨k.os.trans h.os,k.tape.trans h.tape,k.output.trans h.output,Nat.le_trans h.size k.size,fun i hi hn=>(k.block i (Nat.lt_of_lt_of_le hi h.size) (fun ht=>hn (hT i hi ht))).trans (h.block i hi hn)⟩
theorem wpList_store_M {P:Program}{ops:Array Oper}{rest:List Oper}{o:Oper}{a:Act}{w:World}{Q:Exit→Act→World→Prop}(hgd:o.guard=none)(ty:TypeId)(x y:Operand)(ho:o.op= .store ty x y)
  (g:Nat) (cells:Array Value) (hx:a.eval x= .pointer (some ⟨g,0,none⟩)) (hy:a.eval y= .agg cells)
  (t:TypeId) (old:Array Value) (hg:Blk w g t old) (hi:(P.info? ty).map (·.size)=some cells.size)
  (hold:old.size=cells.size) (h1:cells.all (·.oneCell')=true)
  (h:∀w',Blk w' g t cells→Mod (fun k=>k=g) w w'→wpList P ops Q rest (a.put o.dst undef) w'):wpList P ops Q (o::rest) a w:=
 wpList_store_row hgd ty x y ho g cells hx hy t old hg hi hold h1 (h _ (Blk.setRow hg _) (Mod.setRow (S:=fun k=>k=g) (Mod.refl _ _) (.inr rfl) _))
theorem Zag {P:Program}{o:Oper}{a:Act}{w:World}{K:Act→World→Prop}{Q:Exit→Act→World→Prop}(ty:TypeId)(x y:Operand)(ho:o.op= .store ty x y)
  (g:Nat) (cells:Array Value) (hx:a.eval x= .pointer (some ⟨g,0,none⟩)) (hy:a.eval y= .agg cells)
  (t:TypeId) (old:Array Value) (hg:Blk w g t old) (hi:(P.info? ty).map (·.size)=some cells.size)
  (hold:old.size=cells.size) (h1:cells.all (·.oneCell')=true)
  (h:∀w',Blk w' g t cells→Mod (fun k=>k=g) w w'→K (a.put o.dst undef) w'):o.wp P a w K Q:=
 wp_store_row ty x y ho g cells hx hy t old hg hi hold h1 (h _ (Blk.setRow hg _) (Mod.setRow (S:=fun k=>k=g) (Mod.refl _ _) (.inr rfl) _))
structure Re (g:Nat)(A:Nat→Prop)(w:World)(v:Value)(l:List Int):Prop where
 blk:Blk w g 290 #[v,.int .i64 0]
 rd:RdS Ub8 A w v l
theorem Re.ext {g:Nat}{A:Nat→Prop}{w w':World}{v:Value}{l:List Int}(h:Re g A w v l)(E:Ext w w'):Re g A w' v l:=⟨h.blk.ext E,h.rd.ext E⟩
theorem Re.mod {S:Nat→Prop}{g:Nat}{A:Nat→Prop}{w w':World}{v:Value}{l:List Int}(h:Re g A w v l)(M:Mod S w w')(h1:¬S g)(h2:∀k,k<w.heap.size→A k→¬S k):Re g A w' v l:=⟨h.blk.mod M h1,h.rd.mod M h2⟩
theorem Zmk {A:Nat→Prop}{w:World}{Ad:Option Addr}{n c k:Nat}{l:List Int}(h:RdS Ub8 A w (.slice Ad n c) l)(hk:k≤n):RdS Ub8 A w (.slice (if c=k then Ad else Ad.map (fun x=>x.add k)) (n - k) (c - k)) (l.drop k):=by
 have h2:=RdS.from_ h hk
 have e:k*Ub8.size=k:=by show k*1=k;omega
 rw[e] at h2
 exact h2
theorem Zml {D:Type}{e:Rep D}{A B:Nat→Prop}{w w':World}{v:Value}(h:RdS e A w v []):RdS e B w' v []:=by
 obtain⟨⟨us,⟨hl,Ad,c,hv,h1,h2,h3⟩,he⟩,ho⟩:=h
 have hu:us=[]:=List.eq_nil_of_length_eq_zero (by simpa using hl)
 subst hu
 refine⟨⟨[],⟨by simp,Ad,c,hv,h1,h2,?_⟩,RdE.nil _ _ _⟩,fun hn=>absurd hn (by simp)⟩
 rcases h3 with h3|⟨b,off,hA,-⟩
 ·exact .inl h3
 ·exact .inr ⟨b,off,hA,fun j u hu=>by simp at hu⟩
def RdP (g:Nat)(A:Nat→Prop)(n:Int)(t r:List Int)(w:World)(e:Ending)(w':World):Prop:=
 ∃vt v2,e= .returned (.agg #[.int .i64 0,.int .u32 n,vt,.slice none 0 0])∧RdS Ub8 (fun k=>w.heap.size≤k) w' vt t∧Re g A w' v2 r∧Mod (fun k=>k=g) w w'
def TkP (g:Nat)(A:Nat→Prop)(t r:List Int)(w:World)(e:Ending)(w':World):Prop:=∃v1 v2,e= .returned v1∧RdS Ub8 A w' v1 t∧Re g A w' v2 r∧Mod (fun k=>k=g) w w'
theorem Zfi (g:Nat)(A:Nat→Prop)(v:Value)(l:List Int)(n:Nat)(w:World)(h:Re g A w v l)(hA:∀k,A k→k≠g∧k<w.heap.size)(hn:n≤l.length):
  Calls Tryz.prog 173 #[.pointer (some ⟨g,0,none⟩),.int .i64 n] w (TkP g A (l.take n) (l.drop n) w):=by
 obtain⟨Ad,c,rfl,hc1,hc2⟩:=h.rd.shape
 obtain⟨k0,k1,f0,f1⟩:=h.blk.two
 have H1:=zh (RdS.to_ h.rd hn)
 have H2:=zh (Zmk h.rd hn)
 have HB:=zh h.blk
 obtain⟨N,hN⟩:=zm (l.length)
 rw[hN] at hn hc1 k0 H2 HB
 obtain⟨A5,hA5⟩:=zm ((if c=n then Ad else Ad.map (fun x=>x.add n)))
 rw[hA5] at H2
 have i1:(0:Int)≤(n:Int):=by omega
 have i2:(n:Int)≤(N:Int):=by omega
 have i3:(N:Int)≤(c:Int):=by omega
 have i4:(n:Int)≤(c:Int):=by omega
 have i5:¬((N:Int)<(n:Int)):=by omega
 clear h hN
 go_enter Tryz.func173,Tryz.ntmps173
 go_wp2
 go_ret
 have M:Mod (fun k=>k=g) w (w.setCell ⟨g,0,none⟩ (.slice A5 (N - n) (c - n))):=(Mod.refl _ _).set1 _
 exact⟨_,_,rfl,H1.out.mod M (fun k _ ha he=>(hA k ha).1 he),⟨by simpa using HB.out.set_ 0 (.slice A5 (N - n) (c - n)),H2.out.mod M (fun k _ ha he=>(hA k ha).1 he)⟩,M⟩
theorem ZhX (g:Nat)(A:Nat→Prop)(v:Value)(x:Int)(r:List Int)(w:World)(h:Re g A w v (x::r))(hA:∀k,A k→k≠g∧k<w.heap.size)(hx:0≤x∧x≤255):
  Calls Tryz.prog 87 #[.pointer (some ⟨g,0,none⟩)] w (RdP g A x [] r w):=by
 have hi:=zi Tryz.prog 86 4
 have hgn:¬w.heap.size=g:=by have:=h.blk.lt;omega
 have hwr:IntKind.u32.wrap x=x:=by unfold IntKind.wrap;simp[IntKind.bits,IntKind.signed];omega
 have HT:=zh (fun w' (h':Re g A w' v (x::r))=>(fun(h2:w.heap.size≤w'.heap.size)=>Zfi g A v (x::r) 1 w' h' (fun k hk=>⟨(hA k hk).1,Nat.lt_of_lt_of_le (hA k hk).2 h2⟩) (by simp)))
 have H:=zh h
 have B0:=zh (Blk.new w 86 #[.int .i64 0,.int .u32 0,.slice none 0 0,.slice none 0 0])
 have E0:Ext w (w.alloc (.cells #[.int .i64 0,.int .u32 0,.slice none 0 0,.slice none 0 0] 86)):=(Ext.refl w).alloc _
 clear h
 go_enter Tryz.func87,Tryz.ntmps87
 go_wp2_with fail
 refine(HT.out _ (H.out.ext E0) E0.size).mono ?_
 rintro e w1 ⟨v1,v2,rfl,R1,R2,M1⟩
 have R3:=RdS.ri R1
 obtain⟨A1,c1,rfl,hc1,hc2⟩:=RdN.shape R3
 obtain⟨b,off,y,rfl,ky,hd⟩:=RdN.icell R3 (j:=0) (by simp)
 have hy:x=y:=by simpa using hd.out
 subst hy
 have B1:=zh (B0.out.mod M1 hgn)
 have R2:=zh R2
 have M1:=zh ((Mod.of_ext E0).trans M1)
 clear R1 R3 hd
 simp only[List.take_succ_cons,List.take_zero,List.length_singleton,Nat.add_zero] at ky hc1⊢
 have hnil:(binOp .eql 43 (.slice (some ⟨b,off,none⟩) 1 c1) (.slice none 0 0)).run Tryz.prog w1=_:=Go.Lib.run_eql_slice_nil w1 43 5 (some ⟨b,off,none⟩) 1 c1 0 0 Tryz.underlying43
 go_wp2_with(refine wpList_store_M rfl 86 _ _ rfl w.heap.size _ rfl rfl 86 _ B1.out hi rfl (by simp[Value.oneCell']) ?_;intro w2 HB M2)
 skip
 refine bodyPost_ret_by (results_cell_row Tryz.results87 _ _ w.heap.size 86 _ _ _ rfl HB Tryz.underlying86 rfl hi) rfl ?_
 exact⟨_,v2,rfl,RdS.nil _ _ _,R2.out.mod M2 (fun he=>hgn he.symm) (fun k hk ha he=>by have:=(hA k ha).2;omega),Mod.transN M1.out M2 (fun i hi he=>by omega)⟩
theorem Zj9 (g:Nat)(A:Nat→Prop)(v:Value)(x:Int)(r:List Int)(w:World)(h:Re g A w v (x::r))(hA:∀k,A k→k≠g∧k<w.heap.size)(hx:0≤x∧x≤1):
  Calls Tryz.prog 89 #[.pointer (some ⟨g,0,none⟩)] w (RdP g A x [] r w):=by
 have hi:=zi Tryz.prog 86 4
 have hgn:¬w.heap.size=g:=by have:=h.blk.lt;omega
 have HT:=zh (fun w' (h':Re g A w' v (x::r)) (h2:w.heap.size≤w'.heap.size)=>ZhX g A v x r w' h' (fun k hk=>⟨(hA k hk).1,Nat.lt_of_lt_of_le (hA k hk).2 h2⟩) ⟨hx.1,by omega⟩)
 have H:=zh h
 have B0:=zh (Blk.new w 86 #[.int .i64 0,.int .u32 0,.slice none 0 0,.slice none 0 0])
 have E0:Ext w (w.alloc (.cells #[.int .i64 0,.int .u32 0,.slice none 0 0,.slice none 0 0] 86)):=(Ext.refl w).alloc _
 have hmin:(if x≤1 then x else 1)=x:=if_pos hx.2
 clear h
 go_enter Tryz.func89,Tryz.ntmps89
 go_wp2_with fail
 refine(HT.out _ (H.out.ext E0) E0.size).mono ?_
 rintro e w1 ⟨v1,v2,rfl,R1,R2,M1⟩
 obtain⟨A1,c1,rfl,-,-⟩:=R1.shape
 have B1:=zh (B0.out.mod M1 hgn)
 have R2:=zh R2
 have R1:=zh R1
 have M1:=zh ((Mod.of_ext E0).trans M1)
 go_upto_region 2 with fail
 obtain⟨W5,hW5⟩:=zn (w1.alloc (.cells #[.int .i64 0,.int .u32 x,.slice A1 0 c1,.slice none 0 0] 86))
 have E5:Ext w1 W5:=by rw[hW5];exact(Ext.refl _).alloc _
 have P5:Blk W5 w1.heap.size 86 #[.int .i64 0,.int .u32 x,.slice A1 0 c1,.slice none 0 0]:=by rw[hW5];exact Blk.new w1 _ _
 rw[←hW5]
 clear hW5
 obtain⟨n5,hn5⟩:=zm (w1.heap.size)
 have hs5:=E5.size
 have hs1:=M1.out.size
 have hbl:=B1.out.lt
 have hgl:=R2.out.blk.lt
 rw[hn5] at P5 hs5 hs1 hbl hgl⊢
 have kp:=P5.cell 1
 have fp:=P5.frozen 1
 have P6:=zh (show Blk (W5.setCell ⟨n5,1,none⟩ (.int .u32 x)) n5 86 #[.int .i64 0,.int .u32 x,.slice A1 0 c1,.slice none 0 0] by simpa using P5.set_ 1 (.int .u32 x))
 have B6:=zh ((B1.out.ext E5).far (p:=⟨n5,1,none⟩) (by show w.heap.size≠n5;omega) (.int .u32 x))
 have MX:Mod (fun k=>k=n5) w1 (W5.setCell ⟨n5,1,none⟩ (.int .u32 x)):=(Mod.of_ext E5).set1 _
 have M6:=zh (Mod.transN M1.out MX (fun k hk he=>by omega))
 have R6:=zh (R2.out.mod MX (by omega) (fun k hk ha he=>by have:=(hA k ha).2;omega))
 have T6:=zh (R1.out.ext (Ext.refl _))
 clear E5 P5 B1 M1 R2 MX
 go_wp2_with(first|(refine wpList_load_row rfl 86 _ rfl _ rfl 86 _ _ _ P6.out Tryz.underlying86 rfl hi ?_)|(refine wpList_store_M rfl 86 _ _ rfl w.heap.size _ rfl rfl 86 _ B6.out hi rfl (by simp[Value.oneCell']) ?_;intro w2 HB M2))
 refine bodyPost_ret_by (results_cell_row Tryz.results89 _ _ w.heap.size 86 _ _ _ rfl HB Tryz.underlying86 rfl hi) rfl ?_
 exact⟨_,v2,rfl,Zml T6.out,R6.out.mod M2 (by omega) (fun k hk ha he=>by have:=(hA k ha).2;omega),Mod.transN M6.out M2 (fun k hk he=>by omega)⟩
theorem ZeR (a b:Nat)(ha:a<4294967296)(hb:b<4294967296):bits .or .u32 (a:Int) (b:Int)=((a|||b:Nat):Int):=by
 have hx:a|||b<2 ^ 32:=Nat.or_lt_two_pow (by omega) (by omega)
 have e1:(BitVec.ofInt 32 (a:Int)).toNat=a:=by rw[BitVec.ofInt_natCast,BitVec.toNat_ofNat];exact Nat.mod_eq_of_lt (by omega)
 have e2:(BitVec.ofInt 32 (b:Int)).toNat=b:=by rw[BitVec.ofInt_natCast,BitVec.toNat_ofNat];exact Nat.mod_eq_of_lt (by omega)
 show IntKind.u32.wrap ((BitVec.ofInt 32 (a:Int)|||BitVec.ofInt 32 (b:Int)).toNat:Int)=_
 rw[BitVec.toNat_or,e1,e2]
 unfold IntKind.wrap
 simp[IntKind.bits,IntKind.signed]
 omega
theorem Zbs (x y:Int)(i:Nat)(hx0:0≤x)(hx1:x<4294967296)(hy0:0≤y)(hy1:y<4294967296)(hx:x.toNat % 2 ^ i=0)(hy:y.toNat<2 ^ i):bits .or .u32 x y=x+y:=by
 obtain⟨a,rfl⟩:=Int.eq_ofNat_of_zero_le hx0
 obtain⟨b,rfl⟩:=Int.eq_ofNat_of_zero_le hy0
 rw[ZeR a b (by omega) (by omega),nat_join i a b (by simpa using hx) (by simpa using hy)]
 simp
theorem Zmm (a b c d:Int)(ba:0≤a∧a≤255)(bb:0≤b∧b≤255)(bc:0≤c∧c≤255)(bd:0≤d∧d≤255):
  bits .or .u32 (bits .or .u32 (bits .or .u32 (a*16777216) (b*65536)) (c*256)) d=a*16777216+b*65536+c*256+d:=by
 rw[Zbs (a*16777216) (b*65536) 24 (by omega) (by omega) (by omega) (by omega) (by omega) (by omega)]
 rw[Zbs _ (c*256) 16 (by omega) (by omega) (by omega) (by omega) (by omega) (by omega)]
 rw[Zbs _ d 8 (by omega) (by omega) (by omega) (by omega) (by omega) (by omega)]
theorem ZhY (g:Nat)(A:Nat→Prop)(v:Value)(n:Int)(r:List Int)(w:World)(h:Re g A w v (Fr.four n++r))(hA:∀k,A k→k≠g∧k<w.heap.size)(hn:0≤n∧n≤4294967295):
  Calls Tryz.prog 92 #[.pointer (some ⟨g,0,none⟩)] w (RdP g A n [] r w):=by
 have hi:=zi Tryz.prog 86 4
 have hgn:¬w.heap.size=g:=by have:=h.blk.lt;omega
 obtain⟨a,b,c,d,hf,ha,hb,hc,hd,hsum⟩:∃a b c d:Int,Fr.four n=[a,b,c,d]∧(0≤a∧a≤255)∧(0≤b∧b≤255)∧(0≤c∧c≤255)∧(0≤d∧d≤255)∧a*16777216+b*65536+c*256+d=n:=
  ⟨n/ 16777216,n/ 65536 % 256,n/ 256 % 256,n % 256,rfl,by omega,by omega,by omega,by omega,by omega⟩
 rw[hf] at h
 have HS:=zh (show bits .or .u32 (bits .or .u32 (bits .or .u32 (a*16777216) (b*65536)) (c*256)) d=n by rw[Zmm a b c d ha hb hc hd];exact hsum)
 have hw:∀x:Int,0≤x→x≤4294967295→IntKind.u32.wrap x=x:=fun x h1 h2=>by unfold IntKind.wrap;simp[IntKind.bits,IntKind.signed];omega
 have w1:=hw a (by omega) (by omega)
 have w2:=hw b (by omega) (by omega)
 have w3:=hw c (by omega) (by omega)
 have w4:=hw d (by omega) (by omega)
 have s1:=hw (a*16777216) (by omega) (by omega)
 have s2:=hw (b*65536) (by omega) (by omega)
 have s3:=hw (c*256) (by omega) (by omega)
 have HT:=zh (fun w' (h':Re g A w' v ([a,b,c,d]++r)) (h2:w.heap.size≤w'.heap.size)=>Zfi g A v ([a,b,c,d]++r) 4 w' h' (fun k hk=>⟨(hA k hk).1,Nat.lt_of_lt_of_le (hA k hk).2 h2⟩) (by simp))
 have H:=zh h
 have B0:=zh (Blk.new w 86 #[.int .i64 0,.int .u32 0,.slice none 0 0,.slice none 0 0])
 have E0:Ext w (w.alloc (.cells #[.int .i64 0,.int .u32 0,.slice none 0 0,.slice none 0 0] 86)):=(Ext.refl w).alloc _
 clear h hf hw ha hb hc hd hsum
 go_enter Tryz.func92,Tryz.ntmps92
 go_wp2_with fail
 refine(HT.out _ (H.out.ext E0) E0.size).mono ?_
 rintro e w5 ⟨v1,v2,rfl,R1,R2,M1⟩
 have R3:=RdS.ri R1
 have R1b:=zh R1.2
 have hl4:List.take 4 ([a,b,c,d]++r)=[a,b,c,d]:=by simp
 rw[hl4] at R3
 obtain⟨bb,off,n4,c1,rfl,h4,hm4,k0,k1,k2,k3⟩:=Fr.Za5 (r:=[]) R3
 unfold maxLen at hm4
 have B1:=zh (B0.out.mod M1 hgn)
 have R2:=zh (show Re g A w5 v2 r from R2)
 have M1:=zh ((Mod.of_ext E0).trans M1)
 clear R1 R3
 have hbA:bb<w.heap.size:=(hA bb (R1b.out (by rw[hl4];simp) bb rfl)).2
 have h0:(0:Int)<(n4:Int):=by omega
 have j0:0<n4:=by omega
 have j1:1<n4:=by omega
 have j2:2<n4:=by omega
 have j3:3<n4:=by omega
 have h1:(1:Int)<(n4:Int):=by omega
 have h2:(2:Int)<(n4:Int):=by omega
 have h3:(3:Int)<(n4:Int):=by omega
 have hb5:bb<w5.heap.size:=by have:=M1.out.size;omega
 have hbn:¬bb=w.heap.size:=by omega
 have hnil:(binOp .eql 43 (.slice (some ⟨bb,off,none⟩) n4 c1) (.slice none 0 0)).run Tryz.prog w5=_:=Go.Lib.run_eql_slice_nil w5 43 5 (some ⟨bb,off,none⟩) n4 c1 0 0 Tryz.underlying43
 go_wp2
 refine zg (fun w'=>Mod (fun k=>k=w.heap.size) w5 w') (Mod.of_ext (Ext.drew (Ext.refl _))) fun hHeld=>?_
 refine zr 0 ?_
 refine zr 1 ?_
 (refine zu 2 (fun _ h=>(h.cell bb off hb5 hbn).trans k0) ?_)
 refine zr 3 ?_
 refine zr 4 ?_
 refine zr 5 ?_
 refine zr 6 ?_
 (refine zu 7 (fun _ h=>(h.cell bb (off+1) hb5 hbn).trans k1) ?_)
 refine zr 8 ?_
 refine zr 9 ?_
 refine zr 10 ?_
 refine zr 11 ?_
 refine zr 12 ?_
 (refine zu 13 (fun _ h=>(h.cell bb (off+2) hb5 hbn).trans k2) ?_)
 refine zr 14 ?_
 refine zr 15 ?_
 refine zr 16 ?_
 refine zr 17 ?_
 refine zr 18 ?_
 (refine zu 19 (fun _ h=>(h.cell bb (off+3) hb5 hbn).trans k3) ?_)
 refine zr 20 ?_
 refine zr 21 ?_
 (refine zU 22 (v:=.agg #[.int .i64 0,.int .u32 n,.slice none 0 0,.slice none 0 0]) rfl (Zae (by rfl) 86 _ rfl (by simp[go_sem];exact(by rw[HS.out];kernel_rfl))) ?_)
 (refine zw 23 fun K hK=>?_;rw[if_pos (by rfl)];refine Zag 86 _ _ rfl (w.heap.size) _ rfl rfl 86 _ (B1.out.drew) hi (by rfl) (by simp[Value.oneCell']) ?_;intro w6 HB M2;refine zo hK ((Mod.of_ext (Ext.drew (Ext.refl _))).trans M2) fun hHeld=>?_;clear hK K)
 refine zd ?_
 go_wp2
 refine bodyPost_ret_by (results_cell_row Tryz.results92 _ _ (w.heap.size) 86 _ _ _ rfl HB Tryz.underlying86 rfl hi) rfl ?_
 exact⟨_,v2,rfl,RdS.nil _ _ _,R2.out.mod hHeld (fun he=>hgn he.symm) (fun k hk ha he=>by have:=(hA k ha).2;omega),Mod.transN M1.out hHeld (fun i hi he=>by omega)⟩
theorem Zol {l:List Int}:∀u∈l.map (Value.int .u8),u.oneCell'=true:=by
 intro u hu
 obtain⟨x,_,rfl⟩:=List.mem_map.1 hu
 rfl
theorem Zka (g:Nat)(A:Nat→Prop)(v:Value)(t r:List Int)(w:World)(h:Re g A w v (Fr.four t.length++ (t++r)))(hA:∀k,A k→k≠g∧k<w.heap.size)(hn:t.length≤32768):
  Calls Tryz.prog 95 #[.pointer (some ⟨g,0,none⟩)] w (RdP g A 0 t r w):=by
 have hi:=zi Tryz.prog 86 4
 have hgn:¬w.heap.size=g:=by have:=h.blk.lt;omega
 obtain⟨N,hN⟩:=zm (t.length)
 have HN:=zh hN
 rw[hN] at h hn
 have HT:=zh (fun w' (h':Re g A w' v (Fr.four (N:Nat)++ (t++r))) (h2:w.heap.size≤w'.heap.size)=>ZhY g A v N (t++r) w' h' (fun k hk=>⟨(hA k hk).1,Nat.lt_of_lt_of_le (hA k hk).2 h2⟩) ⟨by omega,by omega⟩)
 have HK:=zh (fun w' v' (h':Re g A w' v' (t++r)) (h2:w.heap.size≤w'.heap.size)=>Zfi g A v' (t++r) N w' h' (fun k hk=>⟨(hA k hk).1,Nat.lt_of_lt_of_le (hA k hk).2 h2⟩) (by rw[←hN];simp))
 have H:=zh h
 have hwr:IntKind.i64.wrap (N:Int)=(N:Int):=by unfold IntKind.wrap;simp[IntKind.bits,IntKind.signed];omega
 have B0:=zh (Blk.new w 86 #[.int .i64 0,.int .u32 0,.slice none 0 0,.slice none 0 0])
 have E0:Ext w (w.alloc (.cells #[.int .i64 0,.int .u32 0,.slice none 0 0,.slice none 0 0] 86)):=(Ext.refl w).alloc _
 have hle:¬(32768:Int)<(N:Int):=by omega
 clear h hN
 go_enter Tryz.func95,Tryz.ntmps95
 go_wp2_with fail
 refine(HT.out _ (H.out.ext E0) E0.size).mono ?_
 rintro e w1 ⟨v1,v2,rfl,R1,R2,M1⟩
 obtain⟨A1,c1,rfl,-,-⟩:=R1.shape
 have hs1:=Nat.le_trans E0.size M1.size
 have hs9:w.heap.size<w1.heap.size:=by have h9:=M1.size;simp at h9;omega
 have B1:=zh (B0.out.mod M1 hgn)
 obtain⟨k0,k1,-,-⟩:=R2.blk.two
 have R2:=zh R2
 have M1:=zh ((Mod.of_ext E0).trans M1)
 clear R1
 have hfd:∀w,(Instr.field 86 (.agg #[.int .i64 0,.int .u32 N,.slice A1 0 c1,.slice none 0 0]) 1).run Tryz.prog w= .ok (.int .u32 N) w:=fun _=>by kernel_rfl
 go_wp2_with fail
 refine(HK.out _ _ R2.out hs1).mono ?_
 rintro e w2 ⟨v3,v4,rfl,R3,R4,M2⟩
 have R3:=zh (show RI .u8 w2 v3 t by
  have h9:=RdS.ri R3
  rw[←HN.out,List.take_left' rfl] at h9
  exact h9)
 have R4:=zh (show Re g A w2 v4 r by
  have h9:=R4
  rw[←HN.out,List.drop_left' rfl] at h9
  exact h9)
 have B2:=zh (B1.out.mod M2 hgn)
 have hs2:=M2.size
 have M2:=zh (M1.out.trans M2)
 clear B1 R2 M1 k0 k1
 go_wp2_with fail
 refine(Fr.Zbr _ _ _ _ R3.out Zol (by rw[HN.out];omega)).mono ?_
 rintro e w3 ⟨v5,rfl,o5,E3⟩
 have HO:=zh ((OwnS.of_ints (B:=fun _=>False) o5).rd (A:=fun k=>w2.heap.size≤k) (fun k hk=>hk) (fun _ h=>h.elim))
 have B3:=zh (B2.out.ext E3)
 obtain⟨A5,c5,rfl⟩:=Zau o5
 clear o5
 go_wp2_with((refine wpList_store_M rfl 86 _ _ rfl (w.heap.size) _ rfl rfl 86 _ B3.out hi rfl (by simp[Value.oneCell']) ?_;intro w4 HB M4))
 refine bodyPost_ret_by (results_cell_row Tryz.results95 _ _ (w.heap.size) 86 _ _ _ rfl HB Tryz.underlying86 rfl hi) rfl ?_
 exact⟨_,v4,rfl,(HO.out.mod M4 (fun k _ hk he=>by omega)).mono (fun k _ hk=>by omega),(R4.out.ext E3).mod M4 (fun he=>hgn he.symm) (fun k hk ha he=>by have:=(hA k ha).2;omega),Mod.transN (M2.out.ext E3) M4 (fun k hk he=>by omega)⟩
theorem Zkb (g:Nat)(A:Nat→Prop)(v:Value)(t:List Int)(w:World)(h:Re g A w v t)(hn:t.length≤33792):
  Calls Tryz.prog 101 #[.pointer (some ⟨g,0,none⟩)] w (RdP g A 0 t [] w):=by
 have hi:=zi Tryz.prog 86 4
 have hgn:¬w.heap.size=g:=by have:=h.blk.lt;omega
 obtain⟨N,hN⟩:=zm (t.length)
 have HN:=zh hN
 have H:=zh h
 have B0:=zh (Blk.new w 86 #[.int .i64 0,.int .u32 0,.slice none 0 0,.slice none 0 0])
 have E0:Ext w (w.alloc (.cells #[.int .i64 0,.int .u32 0,.slice none 0 0,.slice none 0 0] 86)):=(Ext.refl w).alloc _
 obtain⟨k0,k1,-,-⟩:=(H.out.blk.ext E0).two
 clear h hN
 go_enter Tryz.func101,Tryz.ntmps101
 go_wp2_with fail
 refine(Fr.Zbr _ _ _ _ (RdS.ri (H.out.rd.ext E0)) Zol (by omega)).mono ?_
 rintro e w1 ⟨v1,rfl,o1,E1⟩
 have HO:=zh ((OwnS.of_ints (B:=fun _=>False) o1).rd (A:=fun k=>w.heap.size+1≤k) (fun k hk=>by simp at hk;exact hk) (fun _ h=>h.elim))
 rw[HN.out] at o1
 obtain⟨A1,c1,rfl⟩:=Zau o1
 clear o1 k0 k1
 have B1:=zh (B0.out.ext E1)
 have E01:Ext w w1:=E0.trans E1
 clear E1 E0
 have hs1:w.heap.size<w1.heap.size:=B1.out.lt
 have hz:(if 33792<N then(6:Int) else 0)=0:=if_neg (by rw[←HN.out];omega)
 have HR:=zh (fun w'=>ZfV 0 0 A1 N c1 (.slice none 0 0) w')
 rw[hz] at HR
 clear hz
 go_upto_region 2 with fail
 obtain⟨W5,hW5⟩:=zn (w1.alloc (.cells #[.int .i64 0,.int .u32 0,.slice A1 N c1,.slice none 0 0] 86))
 have E5:Ext w1 W5:=by rw[hW5];exact(Ext.refl _).alloc _
 have P5:=zh (show Blk W5 w1.heap.size 86 #[.int .i64 0,.int .u32 0,.slice A1 N c1,.slice none 0 0] by rw[hW5];exact Blk.new w1 _ _)
 rw[←hW5]
 clear hW5
 obtain⟨n5,hn5⟩:=zm (w1.heap.size)
 rw[hn5] at P5 hs1⊢
 have E05:Ext w W5:=E01.trans E5
 go_wp2_with(first|(refine wpList_load_row rfl 86 _ rfl _ rfl 86 _ _ _ P5.out Tryz.underlying86 rfl hi ?_)|fail)
 refine(HR.out _).mono ?_
 rintro e w6 ⟨rfl,E6⟩
 have E06:=E05.trans E6
 have G6:=H.out.blk.ext E06
 obtain⟨k0,k1,f0,f1⟩:=G6.two
 have hgl:=H.out.blk.lt
 have M6:Mod (fun k=>k=g) w6 ((w6.setCell ⟨g,1,none⟩ (.int .i64 0)).setCell ⟨g,0,none⟩ (.slice none 0 0)):=((Mod.refl _ _).set1 _).set1 _
 have P6:=zh ((P5.out.ext E6).mod M6 (by omega))
 have B6:=zh (((B1.out.ext E5).ext E6).mod M6 hgn)
 have G7:=zh (show Blk ((w6.setCell ⟨g,1,none⟩ (.int .i64 0)).setCell ⟨g,0,none⟩ (.slice none 0 0)) g 290 #[.slice none 0 0,.int .i64 0] by simpa using(G6.set_ 1 (.int .i64 0)).set_ 0 (.slice none 0 0))
 have MM:=zh ((Mod.of_ext E06).trans M6)
 have HV:=zh (((HO.out.ext (E5.trans E6)).mod (S:=fun k=>k=g) M6 (fun k _ hk he=>by omega)))
 clear E01 E5 E05 E6 E06 G6 M6 B0 B1
 go_wp2_with(first|(refine wpList_load_row rfl 86 _ rfl _ rfl 86 _ _ _ P6.out Tryz.underlying86 rfl hi ?_)|(refine wpList_store_M rfl 86 _ _ rfl (w.heap.size) _ rfl rfl 86 _ B6.out hi rfl (by simp[Value.oneCell']) ?_;intro w7 HB M7))
 refine bodyPost_ret_by (results_cell_row Tryz.results101 _ _ (w.heap.size) 86 _ _ _ rfl HB Tryz.underlying86 rfl hi) rfl ?_
 exact⟨_,_,rfl,(HV.out.mod M7 (fun k _ hk he=>by omega)).mono (fun k _ hk=>by omega),⟨G7.out.mod M7 (fun he=>hgn he.symm),RdS.nil _ _ _⟩,Mod.transN MM.out M7 (fun k hk he=>by omega)⟩
def Zeb (f:Fd):Prop:=(f.k=1∧(0≤f.n∧f.n≤255)∧f.t=[])∨(f.k=2∧(0≤f.n∧f.n≤1)∧f.t=[])∨(f.k=3∧(0≤f.n∧f.n≤4294967295)∧f.t=[])∨(f.k=4∧f.n=0∧f.t.length≤32768)∨(f.k=6∧f.n=0∧f.t.length≤33792)
structure ReadsF (kk fn:Nat)(f:Fd)(r:List Int):Prop where
 k:f.k=(kk:Int)
 lt:kk<7
 at_:sortsV[kk*3+2]?=some (.func (.func fn) #[] #[])
 enters:∀args w',(callFunc fn args).run Tryz.prog w'= .ok (.enter fn args) w'
 reads:∀g A v w,Re g A w v (encF f.k f.n f.t++r)→(∀k,A k→k≠g∧k<w.heap.size)→Calls Tryz.prog fn #[.pointer (some ⟨g,0,none⟩)] w (RdP g A f.n f.t r w)
theorem Zmn (args:Array Value)(w:World):(callFunc 87 args).run Tryz.prog w= .ok (.enter 87 args) w:=by kernel_rfl
theorem Zo4 (args:Array Value)(w:World):(callFunc 89 args).run Tryz.prog w= .ok (.enter 89 args) w:=by kernel_rfl
theorem Zkc (args:Array Value)(w:World):(callFunc 92 args).run Tryz.prog w= .ok (.enter 92 args) w:=by kernel_rfl
theorem Zo5 (args:Array Value)(w:World):(callFunc 95 args).run Tryz.prog w= .ok (.enter 95 args) w:=by kernel_rfl
theorem Zo6 (args:Array Value)(w:World):(callFunc 101 args).run Tryz.prog w= .ok (.enter 101 args) w:=by kernel_rfl
theorem Zo7 {f:Fd}(hc:Zeb f)(r:List Int)(hr:f.k=6→r=[]):∃kk fn:Nat,ReadsF kk fn f r:=by
 obtain⟨k,n,t⟩:=f
 rcases hc with⟨rfl,hn,ht⟩|⟨rfl,hn,ht⟩|⟨rfl,hn,ht⟩|⟨rfl,hn,ht⟩|⟨rfl,hn,ht⟩
 ·dsimp only at hn ht
  subst ht
  exact⟨1,87,rfl,by omega,rfl,Zmn,fun g A v w h hA=>ZhX g A v n r w (by simpa [encF] using h) hA hn⟩
 ·dsimp only at hn ht
  subst ht
  exact⟨2,89,rfl,by omega,rfl,Zo4,fun g A v w h hA=>Zj9 g A v n r w (by simpa [encF] using h) hA hn⟩
 ·dsimp only at hn ht
  subst ht
  exact⟨3,92,rfl,by omega,rfl,Zkc,fun g A v w h hA=>ZhY g A v n r w (by simpa [encF] using h) hA hn⟩
 ·dsimp only at hn ht
  subst hn
  exact⟨4,95,rfl,by omega,rfl,Zo5,fun g A v w h hA=>Zka g A v t r w (by simpa [encF] using h) hA ht⟩
 ·dsimp only at hn ht
  subst hn
  obtain rfl:=hr rfl
  exact⟨6,101,rfl,by omega,rfl,Zo6,fun g A v w h _=>Zkb g A v t w (by simpa [encF] using h) ht⟩
theorem Zec {fs:List Fd}{m:Nat}{f:Fd}(h:fs[m]?=some f):encL (fs.drop m)=encF f.k f.n f.t++encL (fs.drop (m+1)):=by
 obtain⟨hlt,rfl⟩:=List.getElem?_eq_some_iff.1 h
 rw[List.drop_eq_getElem_cons hlt]
 rfl
theorem ZcN:(Tryz.prog.info? 86).map (fun i=>(i.zero,i.size,i.bytes))=some (some (.agg #[.int .i64 0,.int .u32 0,.slice none 0 0,.slice none 0 0]),FdR.size,64):=by kernel_rfl
def ReP (fs:List Fd)(w:World)(e:Ending)(w':World):Prop:=
 ∃v,e= .returned (.tuple #[v,.int .i64 0])∧OwnS FdR 86 w.heap.size (fun k=>w.heap.size≤k) w' v fs∧Ext w w'
theorem Zf0 (vk v:Value)(fs:List Fd)(w:World)(hk:RI .i64 w vk (fs.map (·.k)))(hv:RI .u8 w v (encL fs))(hN:fs.length≤8)(hr:Zdw (fs.map (·.k)))(hf:∀f∈fs,Zeb f):
  Calls Tryz.prog 144 #[vk,v] w (ReP fs w):=by
 obtain⟨Ak,ck,rfl,hk1,hk2⟩:=hk.shape
 obtain⟨Av,cv,hvs,hv1,hv2⟩:=hv.shape
 obtain⟨LV,hLV⟩:=zm ((encL fs).length)
 rw[hLV] at hvs hv1
 have HK:=zh hk
 have HV:=zh ((show RdS Ub8 (fun _=>True) w v (encL fs) from RI.s hv).lt.mono (B:=fun k=>k<w.heap.size) (fun k _ h=>h.2))
 have HR:=zh hr
 have HF:=zh hf
 have hi21:=zi Tryz.prog 163 21
 have hi:=zi Tryz.prog 86 4
 have hone:sortsV.all (·.oneCell')=true:=by simp[sortsV,fnV,Value.oneCell']
 have al101:Tryz.prog.arrayLen 163=7:=by kernel_rfl
 obtain⟨N,hNN⟩:=zm (fs.length)
 have HN:=zh hNN
 rw[show(fs.map (·.k)).length=N by simpa using hNN] at hk1⊢
 have HK:=zh (show RdN w 1 (.slice Ak N ck) (fs.map (·.k)).length ((fs.map (·.k)).map (Value.int .i64)) by have h9:=HK.out;unfold RI at h9;rw[show(fs.map (·.k)).length=N by simpa using hNN] at h9⊢;exact h9)
 rw[hNN] at hN
 subst hvs
 clear hk hv hr hf hNN hLV
 go_enter Tryz.func144,Tryz.ntmps144
 go_wp2_with fail
 refine(Zj6 _ _ _ HK.out HR.out).mono ?_
 rintro e w2 ⟨rfl,E2⟩
 have E02:Ext w w2:=zX
 go_wp2_with fail
 refine(Zd6 _).mono ?_
 rintro e w3 ⟨rfl,E3⟩
 have E03:=zh (E02.trans E3)
 clear E02 E2 E3
 go_upto_region 4 with(refine wpList_store_A rfl 163 _ _ rfl w3.heap.size sortsV rfl rfl 163 _ (show Blk _ _ _ _ from Blk.at_ _ _ rfl) hi21 rfl hone ?_;intro w4 HB4 E4;have E4:Ext w3 w4:=E4 w3.heap.size w3 ((Ext.refl w3).alloc _) (by omega))
 have E04:=zh (E03.out.trans E4)
 have B7:=zh HB4
 obtain⟨n7,hn7⟩:=zm (w3.heap.size)
 rw[hn7] at B7⊢
 have HN7:=zh (show w.heap.size≤n7 by rw[←hn7];exact E03.out.size)
 clear E4 E03 HB4 hn7
 go_upto_region 5 with fail
 obtain⟨W8,hW8⟩:=zn (w4.alloc (.cells #[.slice Av LV cv,.int .i64 0] 290))
 have E48:Ext w4 W8:=by rw[hW8];exact(Ext.refl _).alloc _
 have B8:=zh (show Blk W8 w4.heap.size 290 #[.slice Av LV cv,.int .i64 0] by rw[hW8];exact Blk.new w4 _ _)
 obtain⟨n8,hn8⟩:=zm (w4.heap.size)
 have HN8:=zh (show n7<n8 by rw[←hn8];exact B7.out.lt)
 rw[←hW8]
 rw[hn8] at B8⊢
 have E08:=zh (E04.out.trans E48)
 have B7:=zh (B7.out.ext E48)
 have HW8:=zh (show Re n8 (fun k=>k<w.heap.size) W8 (.slice Av LV cv) (encL (fs.drop 0)) from⟨B8.out,by rw[List.drop_zero];exact HV.out.ext E08.out⟩)
 clear hW8 E04 E48 hn8 B8 HV
 go_wp2
 go_loopw [8,21] (fun u i wr=>∃ (m:Nat) (v2:Value),m≤N∧i= .int .i64 m∧Hid (OwnS FdR 86 (n8+1) (fun k=>n8<k) wr u (fs.take m))∧Hid (Re n8 (fun k=>k<w.heap.size) wr v2 (encL (fs.drop m)))∧Hid (Blk wr n7 163 sortsV)∧Hid (Ext w wr)) (fun _ i _=>N - (intOf i).toNat)
 case atStart=>exact⟨0,.slice Av LV cv,Nat.zero_le _,rfl,zh (by rw[List.take_zero];exact OwnS.nil _ _ _ _ _),HW8,B7,E08⟩
 case round=>
  clear B7 E08 HW8
  obtain⟨m,v2,hm,rfl,HO,HW,B7,hE⟩:=hrel
  by_cases hmn:m<N
  ·obtain⟨b,off,x,rfl,hx,hd⟩:=(RdN.ext HK.out hE.out).icell hmn
   obtain⟨f,hfm,hfk⟩:∃f,fs[m]?=some f∧x=f.k:=by
    have h9:=hd.out
    rw[List.getElem?_map] at h9
    cases h8:fs[m]? with
    |none=>rw[h8] at h9;cases h9
    |some f=>rw[h8] at h9;exact⟨f,rfl,by simpa using h9.symm⟩
   obtain⟨kk,fn,hfn⟩:=Zo7 (HF.out f (List.mem_of_getElem? hfm)) (encL (fs.drop (m+1))) (fun h6=>by
    have h9:=(HR.out m x hd.out).2 (by rw[hfk];exact h6)
    rw[List.drop_of_length_le (by simpa using Nat.le_of_eq h9.symm)]
    rfl)
   obtain⟨hkk,hlt,hat,hen,hrd⟩:=hfn
   rw[hkk] at hfk
   subst hfk
   have HFM:=zh hfm
   have HKK:=zh hkk
   have HAT:=zh hat
   have HRD:=zh hrd
   have HW:=zh (show Re n8 (fun k=>k<w.heap.size) wr v2 (encF f.k f.n f.t++encL (fs.drop (m+1))) by rw[←Zec hfm];exact HW.out)
   clear hfm hkk hat hrd hd
   have hlt2:(kk:Int)<7:=by omega
   have hkf:wr.cell? ⟨n7,kk*3+2,none⟩=some (.func (.func fn) #[] #[]):=by rw[B7.out.cell,HAT.out]
   have hgl:=HW.out.blk.lt
   have hwl:=hE.out.size
   go_wp2_with fail
   refine(HRD.out n8 (fun k=>k<w.heap.size) v2 wr HW.out (fun k hk=>⟨by have:=HN7.out;have:=HN8.out;omega,by omega⟩)).mono ?_
   rintro e w9 ⟨vt,v3,rfl,T9,R9,M9⟩
   obtain⟨At,ct,rfl,-,-⟩:=T9.shape
   obtain⟨Ao,co,rfl,-,-⟩:=HO.out.shape
   have hlm:(fs.take m).length=m:=by rw[List.length_take,HN.out];omega
   rw[hlm]
   have HO0:=HO.out
   rw[hlm] at HO0
   have HRow:=zh HO0.row
   have HO9:=zh (HO0.mod M9 (fun k hk he=>by have:=(HO0.row k hk).1;omega) (fun k _ hk he=>by omega))
   have B9:=zh (B7.out.mod M9 (by have:=HN8.out;omega))
   have hE9:=zh (Mod.toExt hE.out M9 (fun k hk he=>by have:=HN7.out;have:=HN8.out;omega))
   have T9:=zh T9
   have R9:=zh R9
   have hs9:=M9.size
   clear HO HW B7 hE HRD M9 HO0 hen hkf
   go_upto_region 10 with fail
   obtain⟨W10,hW10⟩:=zn (w9.alloc (.cells #[.int .i64 0,.int .u32 f.n,.slice At f.t.length ct,.slice none 0 0] 86))
   have E10:Ext w9 W10:=by rw[hW10];exact(Ext.refl _).alloc _
   have P10:=zh (show Blk W10 w9.heap.size 86 #[.int .i64 0,.int .u32 f.n,.slice At f.t.length ct,.slice none 0 0] by rw[hW10];exact Blk.new w9 _ _)
   rw[←hW10]
   clear hW10
   obtain⟨n11,hn11⟩:=zm (w9.heap.size)
   rw[hn11] at P10 hs9⊢
   have kr:=(R9.out.blk.ext E10).cell 1
   have kf:=P10.out.frozen 0
   have kp:=P10.out.cell 0
   have P12:=zh (show Blk (W10.setCell ⟨n11,0,none⟩ (.int .i64 kk)) n11 86 #[.int .i64 kk,.int .u32 f.n,.slice At f.t.length ct,.slice none 0 0] by simpa using P10.out.set_ 0 (.int .i64 kk))
   have M12:Mod (fun k=>k=n11) w9 (W10.setCell ⟨n11,0,none⟩ (.int .i64 kk)):=(Mod.of_ext E10).set1 _
   have hn12:n11<(W10.setCell ⟨n11,0,none⟩ (.int .i64 kk)).heap.size:=P12.out.lt
   have HO12:=zh (HO9.out.mod M12 (fun k hk he=>by have:=(HO9.out.row k hk).2;omega) (fun k hk hb he=>by omega))
   have B12:=zh (B9.out.mod M12 (by have:=B9.out.lt;omega))
   have hE12:=zh (Mod.toExt hE9.out M12 (fun k hk he=>by have:=hE9.out.size;omega))
   have T12:=zh (show RdS Ub8 (fun k=>wr.heap.size≤k∧k<n11) _ _ _ from(T9.out.lt.mono (fun k _ hk=>by rw[hn11] at hk;exact hk)).mod M12 (fun k _ hk he=>by omega))
   have R12:=zh (R9.out.mod M12 (by omega) (fun k hk ha he=>by omega))
   clear E10 P10 M12 HO9 B9 hE9 T9 R9
   go_upto_region 13 with fail
   generalize W10.setCell ⟨n11,0,none⟩ (.int .i64 kk)=W12 at*
   have hrel12:=zh (show FdR.rel (fun k=>wr.heap.size≤k∧k<n11) W12 [.int .i64 kk,.int .u32 f.n,.slice At f.t.length ct,.slice none 0 0] f from⟨_,by rw[HKK.out],T12.out⟩)
   have hA12:∀k,wr.heap.size≤k∧k<n11→n8<k∧(Value.slice Ao m co).ownBlock≠some k:=fun k hk=>⟨by omega,fun he=>by have:=(HRow.out k he).2;omega⟩
   have hb12:n8+1≤W12.heap.size:=by omega
   go_wp2_with(first
    |(refine wpList_load_row rfl 86 _ rfl _ rfl 86 _ _ _ P12.out Tryz.underlying86 rfl hi ?_)
    |(at_builtin;refine wpList_app (e:=FdR) (base:=n8+1) (B:=fun k=>n8<k) (A:=fun k=>wr.heap.size≤k∧k<n11) rfl (.tmp 42) (.tmp 44) rfl Tryz.underlying87 ZcN rfl (HO12.out.alloc _) rfl (RdY.singleB (e:=FdR) (cs:=[.int .i64 kk,.int .u32 f.n,.slice At f.t.length ct,.slice none 0 0]) (d:=f) (Rep.ext hrel12.out ((Ext.refl _).alloc _)) (Blk.new _ _ _)) rfl (fun k _ hk=>hA12 k hk) (N:=m+1) (by simp[hlm]) (by unfold maxLen;omega) (by omega) (by simp;omega) ?_;intro A13 c13 w13 o13 M13 L13))
   have M14:Mod (fun k=>(Value.slice Ao m co).ownBlock=some k) W12 w13:=(Mod.of_ext ((Ext.refl W12).alloc _)).trans M13
   refine⟨⟨m+1,v3,by omega,by go_num,zh ?_,zh ?_,zh ?_,zh ?_⟩,by simp[intOf];omega⟩
   ·rw[List.take_add_one,HFM.out]
    exact o13
   ·exact R12.out.mod M14 (fun he=>by have:=(HRow.out _ he).1;omega) (fun k _ hk he=>by have:=(HRow.out _ he).1;have:=HN7.out;have:=HN8.out;omega)
   ·exact B12.out.mod M14 (fun he=>by have:=(HRow.out _ he).1;have:=HN8.out;omega)
   ·exact Mod.toExt hE12.out M14 (fun k hk he=>by have:=(HRow.out _ he).1;have:=HN7.out;have:=HN8.out;omega)
  ·obtain rfl:m=N:=by omega
   have hdr:fs.drop m=[]:=List.drop_of_length_le (by rw[HN.out];exact Nat.le_refl _)
   have hta:fs.take m=fs:=List.take_of_length_le (by rw[HN.out];exact Nat.le_refl _)
   rw[hdr] at HW
   rw[hta] at HO
   obtain⟨Ar,cr,rfl,-,-⟩:=HW.out.rd.shape
   have kr:=HW.out.blk.cell 0
   have hEE:Ext w wr:=hE.out
   have H7:=HN7.out
   have H8:=HN8.out
   have HOO:=zh ((HO.out.lower (base':=w.heap.size) (by omega)).mono (B:=fun k=>w.heap.size≤k) (fun k _ hk=>by omega))
   clear hdr hta HW HO hE
   go_wp2
   go_ret2
   exact⟨_,rfl,HOO.out,hEE⟩
def Zdx:List Pa:=[paCode,paWords,paLang,paName,paWant,paRest,paSender,paWindow,paPacket,paChan]
def vOf (q:Pa)(m:Mg):Fd:=
 if q.g=230 then⟨q.k,m.co,[]⟩ else if q.g=240 then⟨q.k,m.se,[]⟩ else if q.g=242 then⟨q.k,m.wi,[]⟩ else if q.g=244 then⟨q.k,m.pk,[]⟩ else
 if q.g=246 then⟨q.k,m.ch,[]⟩ else if q.g=238 then⟨q.k,if m.wa=true then 1 else 0,[]⟩ else if q.g=236 then⟨q.k,0,bsL m.nm⟩ else if q.g=234 then⟨q.k,0,bsL m.la⟩ else⟨q.k,0,m.da⟩
theorem Zo8 (q:Pa)(m:Mg):(vOf q m).k=q.k:=by
 unfold vOf
 repeat(split;rfl)
 rfl
theorem ZiM (args:Array Value)(w:World):(callFunc 230 args).run Tryz.prog w= .ok (.enter 230 args) w:=by kernel_rfl
theorem Zf1 (args:Array Value)(w:World):(callFunc 240 args).run Tryz.prog w= .ok (.enter 240 args) w:=by kernel_rfl
theorem Zf2 (args:Array Value)(w:World):(callFunc 242 args).run Tryz.prog w= .ok (.enter 242 args) w:=by kernel_rfl
theorem Zf3 (args:Array Value)(w:World):(callFunc 244 args).run Tryz.prog w= .ok (.enter 244 args) w:=by kernel_rfl
theorem ZiN (args:Array Value)(w:World):(callFunc 246 args).run Tryz.prog w= .ok (.enter 246 args) w:=by kernel_rfl
theorem ZiO (args:Array Value)(w:World):(callFunc 238 args).run Tryz.prog w= .ok (.enter 238 args) w:=by kernel_rfl
theorem ZiP (args:Array Value)(w:World):(callFunc 236 args).run Tryz.prog w= .ok (.enter 236 args) w:=by kernel_rfl
theorem ZiQ (args:Array Value)(w:World):(callFunc 234 args).run Tryz.prog w= .ok (.enter 234 args) w:=by kernel_rfl
theorem ZeS (args:Array Value)(w:World):(callFunc 232 args).run Tryz.prog w= .ok (.enter 232 args) w:=by kernel_rfl
structure GetsP (q:Pa)(m:Mg):Prop where
 enters:∀args w',(callFunc q.g args).run Tryz.prog w'= .ok (.enter q.g args) w'
 gets:∀g v A w,Blk w g 224 (mgA m v)→RdS Ub8 A w v m.da→Calls Tryz.prog q.g #[.pointer (some ⟨g,0,none⟩)] w (ZjR A (vOf q m).n (vOf q m).t w)
theorem Zmo {q:Pa}(hq:q∈Zdx)(m:Mg)(h1:m.nm.size≤1000000)(h2:m.la.size≤1000000):GetsP q m:=by
 simp only[Zdx,List.mem_cons,List.not_mem_nil,or_false] at hq
 rcases hq with rfl|rfl|rfl|rfl|rfl|rfl|rfl|rfl|rfl|rfl
 ·exact⟨ZiM,fun g v A w hb _=>Zmf g m v A w hb⟩
 ·exact⟨ZeS,fun g v A w hb hv=>ZhV g m v A w hb hv⟩
 ·exact⟨ZiQ,fun g v A w hb _=>Zmj g m v A w hb h2⟩
 ·exact⟨ZiP,fun g v A w hb _=>Zmi g m v A w hb h1⟩
 ·exact⟨ZiO,fun g v A w hb _=>Zmh g m v A w hb⟩
 ·exact⟨ZeS,fun g v A w hb hv=>ZhV g m v A w hb hv⟩
 ·exact⟨Zf1,fun g v A w hb _=>ZiI g m v A w hb⟩
 ·exact⟨Zf2,fun g v A w hb _=>ZiJ g m v A w hb⟩
 ·exact⟨Zf3,fun g v A w hb _=>ZiK g m v A w hb⟩
 ·exact⟨ZiN,fun g v A w hb _=>Zmg g m v A w hb⟩
def Zdr (k:Int):Prop:=k=1∨k=80∨k=81∨k=82∨k=90∨k=91∨k=92∨k=93∨k=94∨k=95∨k=96∨k=97∨k=98∨k=99∨k=100
theorem ZbW {k:Int}{ps:List Pa}(h:rowL k=some ps):Zdr k:=by
 unfold Zdr
 apply Classical.byContradiction
 intro hn
 simp only[not_or] at hn
 obtain⟨h1,h80,h81,h82,h90,h91,h92,h93,h94,h95,h96,h97,h98,h99,h100⟩:=hn
 rw[show rowL k=none by simp[rowL,h1,h80,h81,h82,h90,h91,h92,h93,h94,h95,h96,h97,h98,h99,h100]] at h
 cases h
theorem Zmp {ks:List Int}(h1:ks.all (fun x=>decide (1≤x∧x≤6))=true)(h2:ks.dropLast.all (fun x=>decide (x≠6))=true):Zdw ks:=by
 intro i x hx
 have hm:=List.mem_of_getElem? hx
 refine⟨of_decide_eq_true (List.all_eq_true.1 h1 x hm),fun h6=>?_⟩
 have hlt:=(List.getElem?_eq_some_iff.1 hx).1
 apply Classical.byContradiction
 intro hn
 have h9:ks.dropLast[i]?=some x:=by rw[List.getElem?_dropLast,if_pos (by omega)];exact hx
 exact of_decide_eq_true (List.all_eq_true.1 h2 x (List.mem_of_getElem? h9)) h6
theorem ZcO {k:Int}{ps:List Pa}(h:rowL k=some ps):ps.length≤5∧(∀q∈ps,q∈Zdx)∧Zdw (1::ps.map (·.k)):=by
 have hk:=ZbW h
 unfold Zdr at hk
 rcases hk with rfl|rfl|rfl|rfl|rfl|rfl|rfl|rfl|rfl|rfl|rfl|rfl|rfl|rfl|rfl
 all_goals
  simp[rowL] at h
  subst h
  exact⟨by decide,by simp[Zdx],Zmp (by decide) (by decide)⟩
theorem Zo9 {ps:List Pa}{j:Nat}{q:Pa}(h:ps[j]?=some q)(i:Nat)(hi:i<3):(ps.flatMap (fun q=>(paA q).toList))[j*3+i]?=(paA q).toList[i]?:=by
 induction ps generalizing j with
 |nil=>simp at h
 |cons a l ih=>
  rw[List.flatMap_cons]
  cases j with
  |zero=>
   simp only[List.getElem?_cons_zero,Option.some.injEq] at h
   subst h
   rw[Nat.zero_mul,Nat.zero_add,List.getElem?_append_left (by simpa using hi)]
  |succ j=>
   rw[List.getElem?_append_right (by simp;omega),show(j+1)*3+i - ((paA a).toList).length=j*3+i by simp;omega]
   exact ih (by simpa using h)
theorem Zpa {w:World}{g:Nat}{t:TypeId}{ps:List Pa}{j:Nat}{q:Pa}(h:Blk w g t (ps.flatMap (fun q=>(paA q).toList)).toArray)(hj:ps[j]?=some q):
  w.cell? ⟨g,j*3,none⟩=some (.int .i64 q.k)∧w.cell? ⟨g,j*3+1,none⟩=some (.func (.func q.g) #[] #[])∧w.cell? ⟨g,j*3+2,none⟩=some (.func (.func q.p) #[] #[]):=by
 refine⟨?_,?_,?_⟩
 ·have h9:=Zo9 hj 0 (by omega)
  rw[h.cell,List.getElem?_toArray]
  simpa using h9
 ·have h9:=Zo9 hj 1 (by omega)
  rw[h.cell,List.getElem?_toArray,h9]
  rfl
 ·have h9:=Zo9 hj 2 (by omega)
  rw[h.cell,List.getElem?_toArray,h9]
  rfl
def flds (m:Mg)(ps:List Pa):List Fd:=⟨1,m.k,[]⟩::ps.map (fun q=>vOf q m)
theorem Zkd (m:Mg)(ps:List Pa):(flds m ps).map (·.k)=1::ps.map (·.k):=by
 unfold flds
 rw[List.map_cons,List.map_map]
 congr 1
 exact List.map_congr_left fun q _=>Zo8 q m
structure Mg.Ok (m:Mg):Prop where
 ch:0≤m.ch∧m.ch≤4294967295
 se:0≤m.se∧m.se≤4294967295
 wi:0≤m.wi∧m.wi≤4294967295
 pk:0≤m.pk∧m.pk≤4294967295
 co:0≤m.co∧m.co≤4294967295
 nm:m.nm.size≤10000
 la:m.la.size≤10000
 da:m.da.length≤100000
 bs:Bs m.da
theorem ZqV {q:Pa}{m:Mg}(hm:m.Ok)(hk:q∈Zdx):FdOk (vOf q m):=by
 refine⟨?_,?_⟩
 ·rw[Zo8]
  simp only[Zdx,List.mem_cons,List.not_mem_nil,or_false] at hk
  rcases hk with rfl|rfl|rfl|rfl|rfl|rfl|rfl|rfl|rfl|rfl<;>simp[paCode,paWords,paLang,paName,paWant,paRest,paSender,paWindow,paPacket,paChan]
 ·obtain⟨h1,h2,h3,h4,h5,-,-,-,-⟩:=hm
  unfold vOf
  repeat' split
  all_goals (dsimp only;first|assumption|omega)
def EncP (m:Mg)(w:World)(e:Ending)(w':World):Prop:=
 ∃ (u:Value) (q:Int),e= .returned (.tuple #[u,.int .i64 q])∧Ext w w'∧(q=0→∃ps,rowL m.k=some ps∧FitP m∧(∀f∈flds m ps,fltF f.k f.n f.t=0)∧(encL (flds m ps)).length≤33792∧OwnS Ub8 5 w.heap.size (fun _=>False) w' u (encL (flds m ps)))∧(q≠0→u= .slice none 0 0)∧(∀ps,rowL m.k=some ps→FitP m→(∀f∈flds m ps,fltF f.k f.n f.t=0)→(encL (flds m ps)).length≤33792→q=0)
theorem ZiR (m:Mg)(v:Value)(w:World)(hd:RdS Ub8 (fun k=>k<w.heap.size) w v m.da)(hm:m.Ok):Calls Tryz.prog 46 #[.agg (mgA m v)] w (EncP m w):=by
 obtain⟨Av,cv,rfl,-,-⟩:=hd.shape
 have HD:=zh hd
 have hi:=zi Tryz.prog 86 4
 have hiM:=zi Tryz.prog 62 10
 have hiP:=zi Tryz.prog 228 3
 have HOK:=zh hm
 have HRW:=zh (fun w'=>ZhU m.k w')
 have HFT:=zh (fun w'=>ZfZ m (.slice Av m.da.length cv) w' (by have:=hm.nm;omega) (by have:=hm.la;omega))
 obtain⟨W1,hW1⟩:=zn (w.alloc (.cells (mgA m (.slice Av m.da.length cv)) 62))
 have E1:Ext w W1:=by rw[hW1];exact(Ext.refl _).alloc _
 have P1:=zh (show Blk W1 w.heap.size 62 (mgA m (.slice Av m.da.length cv)) by rw[hW1];exact Blk.new w _ _)
 have HW1:=zh hW1
 clear hd hm hW1
 go_enter Tryz.func46,Tryz.ntmps46
 go_upto_region 1 with fail
 rw[←HW1.out]
 clear HW1
 have k0:=(mgC P1.out).k0
 have hs1:w.heap.size<W1.heap.size:=P1.out.lt
 go_wp2_with fail
 refine(HRW.out _).mono ?_
 rintro e w2 ⟨E2,hrow⟩
 have E02:Ext w w2:=E1.trans E2
 have P2:=zh (P1.out.ext E2)
 clear k0 P1 E1 E2
 cases hps:rowL m.k with
 |none=>
  rw[hps] at hrow
  obtain rfl:=hrow
  go_wp2
  go_ret2
  exact⟨_,8,rfl,E02,fun h=>absurd h (by decide),fun _=>rfl,fun ps h=>by rw[hps] at h;cases h⟩
 |some ps=>
  rw[hps] at hrow
  obtain⟨Ap,rfl,hpart⟩:=hrow
  have HPS:=zh hps
  have HPT:=zh hpart
  clear hps hpart
  go_wp2_with(first|(refine wpList_load_row rfl 62 _ rfl _ rfl 62 _ _ _ P2.out Tryz.underlying62 rfl hiM ?_)|fail)
  refine(HFT.out _).mono ?_
  rintro e w3 ⟨qf,rfl,hqf,E3⟩
  have E03:=E02.trans E3
  have P3:=zh (P2.out.ext E3)
  have HPT:=zh (show ps=[]∨∃g,Ap=some ⟨g,0,none⟩∧w.heap.size≤g∧Blk w3 g 228 (ps.flatMap (fun q=>(paA q).toList)).toArray from HPT.out.imp id (fun⟨g,h1,h2,h3⟩=>⟨g,h1,Nat.le_trans (Nat.le_of_lt hs1) h2,h3.ext E3⟩))
  clear P2 E3 E02
  cases qf with
  |false=>
   have HNF:=zh (show ¬FitP m from fun h9=>by have:=hqf.2 h9;cases this)
   clear hqf
   go_wp2
   go_ret2
   exact⟨_,4,rfl,E03,fun h=>absurd h (by decide),fun _=>rfl,fun _ _ h9=>absurd h9 HNF.out⟩
  |true=>
   have HFP:=zh (hqf.1 rfl)
   clear hqf
   have hkk:IntKind.u32.wrap m.k=m.k:=by
    have h9:=ZbW HPS.out
    unfold Zdr at h9
    unfold IntKind.wrap
    simp[IntKind.bits,IntKind.signed]
    omega
   go_upto_region 7 with(refine wpList_load_row rfl 62 _ rfl _ rfl 62 _ _ _ P3.out Tryz.underlying62 rfl hiM ?_)
   obtain⟨W6,hW6⟩:=zn (w3.alloc (.cells (mgA m (.slice Av m.da.length cv)) 224))
   have E6:Ext w3 W6:=by rw[hW6];exact(Ext.refl _).alloc _
   have P6:=zh (show Blk W6 w3.heap.size 224 (mgA m (.slice Av m.da.length cv)) by rw[hW6];exact Blk.new w3 _ _)
   have hs3:w.heap.size≤w3.heap.size:=E03.size
   obtain⟨n6,hn6⟩:=zm (w3.heap.size)
   rw[←hW6]
   rw[hn6] at P6 hs3⊢
   clear hW6 hn6
   have k0:=(mgC (P3.out.ext E6)).k0
   have E06:=E03.trans E6
   have HPT:=zh (show ps=[]∨∃g,Ap=some ⟨g,0,none⟩∧w.heap.size≤g∧Blk W6 g 228 (ps.flatMap (fun q=>(paA q).toList)).toArray from HPT.out.imp id (fun⟨g,h1,h2,h3⟩=>⟨g,h1,h2,h3.ext E6⟩))
   clear P3 E03 E6
   have HL:=zh hs1
   have hlen:(flds m ps).length=ps.length+1:=by simp[flds]
   obtain⟨K,hK⟩:=zm (ps.length)
   have HKL:=zh hK
   have hK5:K≤5:=by have:=(ZcO HPS.out).1;omega
   have hlen:=zh (show(flds m ps).length=K+1 by rw[←hK];exact hlen)
   rw[hK]
   have hs6:n6<W6.heap.size:=P6.out.lt
   go_upto_region 8 with fail
   have HO0:=zh (show OwnS FdR 86 W6.heap.size (fun _=>True) (W6.alloc (.cells #[.int .i64 1,.int .u32 m.k,.slice none 0 0,.slice none 0 0] 86)) (.slice (some ⟨W6.heap.size,0,none⟩) 1 1) ((flds m ps).take 1) from by
    refine OwnS.litB (A:=fun k=>k<W6.heap.size) (cs:=[.int .i64 1,.int .u32 m.k,.slice none 0 0,.slice none 0 0]) ?_ (Blk.new _ _ _) (fun k _ hk=>⟨trivial,by omega⟩) (Nat.le_refl _) rfl (by omega)
    exact RdE.single (e:=FdR) (d:=⟨1,m.k,[]⟩) ⟨_,rfl,RdS.nil _ _ _⟩)
   have HE0:=zh ((Ext.refl W6).alloc (.cells #[.int .i64 1,.int .u32 m.k,.slice none 0 0,.slice none 0 0] 86))
   clear hK k0
   go_wp2
   go_loopw [7,34] (fun u i wr=>∃j:Nat,j≤K∧i= .int .i64 j∧Hid (OwnS FdR 86 W6.heap.size (fun _=>True) wr u ((flds m ps).take (j+1)))∧Hid (Ext W6 wr)) (fun _ i _=>K - (intOf i).toNat)
   case atStart=>exact⟨0,Nat.zero_le _,rfl,HO0,HE0⟩
   case round=>
    clear HO0 HE0
    obtain⟨j,hj,rfl,HO,hE⟩:=hrel
    by_cases hjk:j<K
    ·obtain⟨q,hq⟩:∃q,ps[j]?=some q:=⟨_,List.getElem?_eq_getElem (by rw[HKL.out];exact hjk)⟩
     obtain⟨gp,rfl,hgp,hbp⟩:∃g,Ap=some ⟨g,0,none⟩∧w.heap.size≤g∧Blk W6 g 228 (ps.flatMap (fun q=>(paA q).toList)).toArray:=by
      rcases HPT.out with h9|h9
      ·rw[h9] at hq;simp at hq
      ·exact h9
     obtain⟨c0,c1,c2⟩:=Zpa (hbp.ext hE.out) hq
     have HQ:=zh hq
     have hgets:=Zmo ((ZcO HPS.out).2.1 q (List.mem_of_getElem? hq)) m (by have:=HOK.out.nm;omega) (by have:=HOK.out.la;omega)
     have hen:=hgets.enters
     have HG:=zh hgets.gets
     clear hbp hq hgets
     go_upto_region 11 with(refine wpList_store_M rfl 228 _ _ rfl wr.heap.size _ rfl rfl 228 _ (Blk.new _ _ _) hiP rfl (by simp[Value.oneCell']) ?_;intro w10 P10 M10)
     have E10:Ext wr w10:=Mod.toExt ((Ext.refl wr).alloc _) M10 (fun k hk he=>by omega)
     have kp0:=P10.cell 0
     have kp1:=P10.cell 1
     have hE10:=hE.out.trans E10
     have HP10:=zh P10
     clear M10 P10 c0 c1 c2
     go_wp2_with fail
     refine(HG.out n6 _ (fun k=>k<w.heap.size) w10 (P6.out.ext hE10) (HD.out.ext (E06.trans hE10))).mono ?_
     rintro e w11 ⟨vt,rfl,T11,E11⟩
     obtain⟨At,ct,rfl,-,-⟩:=T11.shape
     obtain⟨Ao,co,rfl,-,-⟩:=HO.out.shape
     have hlm:((flds m ps).take (j+1)).length=j+1:=by rw[List.length_take,hlen.out];omega
     rw[hlm]
     have HO0:=HO.out
     rw[hlm] at HO0
     have HRow:=zh HO0.row
     have hvf:(flds m ps)[j+1]?=some (vOf q m):=by
      unfold flds
      rw[List.getElem?_cons_succ,List.getElem?_map,HQ.out]
      rfl
     have hvk:(vOf q m).k=q.k:=Zo8 q m
     obtain⟨f,hf⟩:=zm (vOf q m)
     rw[hf] at hvf hvk T11⊢
     have hwr:=E10.size
     have E1011:=E10.trans E11
     have hs11:=E1011.size
     have HO11:=zh (HO0.ext E1011)
     have P11:=zh (HP10.out.ext E11)
     have hE11:=zh (hE10.trans E11)
     have T11:=zh T11
     have HVF:=zh hvf
     have HVK:=zh hvk
     clear HO hE hE10 E10 E11 E1011 HP10 HO0 hen kp0 kp1 hf hvf hvk HG
     go_upto_region 12 with fail
     obtain⟨W12,hW12⟩:=zn (w11.alloc (.cells #[.int .i64 0,.int .u32 f.n,.slice At f.t.length ct,.slice none 0 0] 86))
     have E12:Ext w11 W12:=by rw[hW12];exact(Ext.refl _).alloc _
     have P12:=zh (show Blk W12 w11.heap.size 86 #[.int .i64 0,.int .u32 f.n,.slice At f.t.length ct,.slice none 0 0] by rw[hW12];exact Blk.new w11 _ _)
     rw[←hW12]
     clear hW12
     obtain⟨n12,hn12⟩:=zm (w11.heap.size)
     rw[hn12] at P12 hs11⊢
     have kf:=P12.out.frozen 0
     have kp:=P12.out.cell 0
     have kk:=(P11.out.ext E12).cell 0
     have P13:=zh (show Blk (W12.setCell ⟨n12,0,none⟩ (.int .i64 q.k)) n12 86 #[.int .i64 q.k,.int .u32 f.n,.slice At f.t.length ct,.slice none 0 0] by simpa using P12.out.set_ 0 (.int .i64 q.k))
     have M13:Mod (fun k=>k=n12) w11 (W12.setCell ⟨n12,0,none⟩ (.int .i64 q.k)):=(Mod.of_ext E12).set1 _
     have hl13:n12<(W12.setCell ⟨n12,0,none⟩ (.int .i64 q.k)).heap.size:=P13.out.lt
     have HO13:=zh (show OwnS FdR 86 W6.heap.size (fun _=>True) (W12.setCell ⟨n12,0,none⟩ (.int .i64 q.k)) (.slice Ao (j+1) co) ((flds m ps).take (j+1)) from by
      refine((HO11.out.mono (B:=fun k=>k<w11.heap.size) (fun k hk _=>hk)).mod M13 (fun k hk he=>by have:=(HO11.out.row k hk).2;omega) (fun k hk hb he=>by omega)).mono (fun _ _ _=>trivial))
     have hE13:=zh (Mod.toExt hE11.out M13 (fun k hk he=>by have:=hE11.out.size;omega))
     have T13:=zh (show RdS Ub8 (fun k=>(k<w.heap.size∨wr.heap.size≤k)∧k<n12) _ _ _ from(T11.out.lt.mono (fun k _ hk=>by rw[hn12] at hk;exact⟨by omega,hk.2⟩)).mod M13 (fun k _ hk he=>by omega))
     clear E12 P12 M13 HO11 hE11 T11 P11
     go_upto_region 13 with fail
     generalize W12.setCell ⟨n12,0,none⟩ (.int .i64 q.k)=W13 at*
     have hrel:=zh (show FdR.rel (fun k=>(k<w.heap.size∨wr.heap.size≤k)∧k<n12) W13 [.int .i64 q.k,.int .u32 f.n,.slice At f.t.length ct,.slice none 0 0] f from⟨_,by rw[HVK.out],T13.out⟩)
     have h6l:=HL.out
     have hA13:∀k,(k<w.heap.size∨wr.heap.size≤k)∧k<n12→True∧(Value.slice Ao (j+1) co).ownBlock≠some k:=fun k hk=>⟨trivial,fun he=>by have:=HRow.out k he;omega⟩
     have hb13:W6.heap.size≤W13.heap.size:=hE13.out.size
     go_wp2_with(first
      |(refine wpList_load_row rfl 86 _ rfl _ rfl 86 _ _ _ P13.out Tryz.underlying86 rfl hi ?_)
      |(at_builtin;refine wpList_app (e:=FdR) (base:=W6.heap.size) (B:=fun _=>True) (A:=fun k=>(k<w.heap.size∨wr.heap.size≤k)∧k<n12) rfl (.tmp 45) (.tmp 47) rfl Tryz.underlying87 ZcN rfl (HO13.out.alloc _) rfl (RdY.singleB (e:=FdR) (cs:=[.int .i64 q.k,.int .u32 f.n,.slice At f.t.length ct,.slice none 0 0]) (d:=f) (Rep.ext hrel.out ((Ext.refl _).alloc _)) (Blk.new _ _ _)) rfl (fun k _ hk=>hA13 k hk) (N:=j+1+1) (by simp[hlm]) (by unfold maxLen;omega) (by omega) (by simp;omega) ?_;intro A14 c14 w14 o14 M14 L14))
     have M15:Mod (fun k=>(Value.slice Ao (j+1) co).ownBlock=some k) W13 w14:=(Mod.of_ext ((Ext.refl W13).alloc _)).trans M14
     refine⟨⟨j+1,by omega,by go_num,zh ?_,zh ?_⟩,by simp[intOf];omega⟩
     ·rw[List.take_add_one,HVF.out]
      exact o14
     ·exact Mod.toExt hE13.out M15 (fun k hk he=>by have:=(HRow.out _ he).1;omega)
    ·obtain rfl:j=K:=by omega
     have hta:(flds m ps).take (j+1)=flds m ps:=List.take_of_length_le (by rw[hlen.out];exact Nat.le_refl _)
     rw[hta] at HO
     have hrow:=ZcO HPS.out
     have HRY:=zh (HO.out.rdT.y)
     have HEE:=zh (E06.trans hE.out)
     obtain⟨Ao,co,rfl,-,-⟩:=HO.out.shape
     have hok:∀f∈flds m ps,FdOk f:=by
      intro f hf
      unfold flds at hf
      rcases List.mem_cons.1 hf with rfl|hf
      ·have h9:=ZbW HPS.out
       unfold Zdr at h9
       exact⟨.inl rfl,by dsimp only;omega⟩
      ·obtain⟨q,hq,rfl⟩:=List.mem_map.1 hf
       exact ZqV HOK.out (hrow.2.1 q hq)
     have HW:=zh (ZeQ _ _ _ HRY.out (by rw[hlen.out];omega) (by rw[Zkd];exact hrow.2.2) hok)
     rw[hlen.out] at HW⊢
     have hes:=HEE.out.size
     clear hta hrow HRY hok HO hE
     go_wp2_with fail
     refine(HW.out).mono ?_
     rintro e w9 ⟨u,qw,rfl,E9,hq0,hq1,hq2⟩
     have E09:=HEE.out.trans E9
     have HQ0:=zh hq0
     have HQ1:=zh hq1
     have HQ2:=zh hq2
     clear hq0 hq1 hq2
     go_wp2
     go_ret2
     exact⟨u,qw,rfl,E09,fun h0=>⟨ps,HPS.out,HFP.out,(HQ0.out h0).1,(HQ0.out h0).2.1,(HQ0.out h0).2.2.lower hes⟩,HQ1.out,fun ps9 h9 _ ha hl=>by obtain rfl:ps=ps9:=Option.some.inj (HPS.out.symm.trans h9);exact HQ2.out ha hl⟩
def Zl3 (g:Nat)(A:Nat→Prop)(m:Mg)(w:World)(e:Ending)(w':World):Prop:=
 e= .returned (.tuple #[])∧∃v,Blk w' g 224 (mgA m v)∧RdS Ub8 A w' v m.da∧Mod (fun k=>k=g) w w'
theorem Zmq (g:Nat)(m:Mg)(v:Value)(k n:Int)(t:List Int)(vt vl:Value)(A:Nat→Prop)(w:World)(h:Blk w g 224 (mgA m v))(hv:RdS Ub8 A w v m.da)(ht:RdS Ub8 A w vt t)(hA:∀k,A k→k≠g):
  Calls Tryz.prog 231 #[.pointer (some ⟨g,0,none⟩),.agg #[.int .i64 k,.int .u32 n,vt,vl]] w (Zl3 g A {m with co:=n} w):=by
 obtain⟨Av,cv,rfl,-,-⟩:=hv.shape
 obtain⟨At,ct,rfl,-,-⟩:=ht.shape
 have E0:Ext w (w.alloc (.cells #[.int .i64 k,.int .u32 n,.slice At t.length ct,vl] 86)):=(Ext.refl w).alloc _
 have HX:=zh (h.ext E0)
 have kc:=HX.out.cell 5
 have kf:=HX.out.frozen 5
 clear h
 go_enter Tryz.func231,Tryz.ntmps231
 go_wp2
 go_end0
 have M1:Mod (fun k=>k=g) w (World.setCell (w.alloc (.cells #[.int .i64 k,.int .u32 n,.slice At t.length ct,vl] 86)) ⟨g,5,none⟩ (.int .u32 n)):=(Mod.of_ext E0).set1 _
 refine⟨rfl,_,by simpa using HX.out.set_ 5 (.int .u32 n),hv.mod M1 (fun k _ hk he=>hA k hk he),M1⟩
theorem ZiS (g:Nat)(m:Mg)(v:Value)(k n:Int)(t:List Int)(vt vl:Value)(A:Nat→Prop)(w:World)(h:Blk w g 224 (mgA m v))(hv:RdS Ub8 A w v m.da)(ht:RdS Ub8 A w vt t)(hA:∀k,A k→k≠g):
  Calls Tryz.prog 241 #[.pointer (some ⟨g,0,none⟩),.agg #[.int .i64 k,.int .u32 n,vt,vl]] w (Zl3 g A {m with se:=n} w):=by
 obtain⟨Av,cv,rfl,-,-⟩:=hv.shape
 obtain⟨At,ct,rfl,-,-⟩:=ht.shape
 have E0:Ext w (w.alloc (.cells #[.int .i64 k,.int .u32 n,.slice At t.length ct,vl] 86)):=(Ext.refl w).alloc _
 have HX:=zh (h.ext E0)
 have kc:=HX.out.cell 2
 have kf:=HX.out.frozen 2
 clear h
 go_enter Tryz.func241,Tryz.ntmps241
 go_wp2
 go_end0
 have M1:Mod (fun k=>k=g) w (World.setCell (w.alloc (.cells #[.int .i64 k,.int .u32 n,.slice At t.length ct,vl] 86)) ⟨g,2,none⟩ (.int .u32 n)):=(Mod.of_ext E0).set1 _
 refine⟨rfl,_,by simpa using HX.out.set_ 2 (.int .u32 n),hv.mod M1 (fun k _ hk he=>hA k hk he),M1⟩
theorem ZiT (g:Nat)(m:Mg)(v:Value)(k n:Int)(t:List Int)(vt vl:Value)(A:Nat→Prop)(w:World)(h:Blk w g 224 (mgA m v))(hv:RdS Ub8 A w v m.da)(ht:RdS Ub8 A w vt t)(hA:∀k,A k→k≠g):
  Calls Tryz.prog 243 #[.pointer (some ⟨g,0,none⟩),.agg #[.int .i64 k,.int .u32 n,vt,vl]] w (Zl3 g A {m with wi:=n} w):=by
 obtain⟨Av,cv,rfl,-,-⟩:=hv.shape
 obtain⟨At,ct,rfl,-,-⟩:=ht.shape
 have E0:Ext w (w.alloc (.cells #[.int .i64 k,.int .u32 n,.slice At t.length ct,vl] 86)):=(Ext.refl w).alloc _
 have HX:=zh (h.ext E0)
 have kc:=HX.out.cell 3
 have kf:=HX.out.frozen 3
 clear h
 go_enter Tryz.func243,Tryz.ntmps243
 go_wp2
 go_end0
 have M1:Mod (fun k=>k=g) w (World.setCell (w.alloc (.cells #[.int .i64 k,.int .u32 n,.slice At t.length ct,vl] 86)) ⟨g,3,none⟩ (.int .u32 n)):=(Mod.of_ext E0).set1 _
 refine⟨rfl,_,by simpa using HX.out.set_ 3 (.int .u32 n),hv.mod M1 (fun k _ hk he=>hA k hk he),M1⟩
theorem ZiU (g:Nat)(m:Mg)(v:Value)(k n:Int)(t:List Int)(vt vl:Value)(A:Nat→Prop)(w:World)(h:Blk w g 224 (mgA m v))(hv:RdS Ub8 A w v m.da)(ht:RdS Ub8 A w vt t)(hA:∀k,A k→k≠g):
  Calls Tryz.prog 245 #[.pointer (some ⟨g,0,none⟩),.agg #[.int .i64 k,.int .u32 n,vt,vl]] w (Zl3 g A {m with pk:=n} w):=by
 obtain⟨Av,cv,rfl,-,-⟩:=hv.shape
 obtain⟨At,ct,rfl,-,-⟩:=ht.shape
 have E0:Ext w (w.alloc (.cells #[.int .i64 k,.int .u32 n,.slice At t.length ct,vl] 86)):=(Ext.refl w).alloc _
 have HX:=zh (h.ext E0)
 have kc:=HX.out.cell 4
 have kf:=HX.out.frozen 4
 clear h
 go_enter Tryz.func245,Tryz.ntmps245
 go_wp2
 go_end0
 have M1:Mod (fun k=>k=g) w (World.setCell (w.alloc (.cells #[.int .i64 k,.int .u32 n,.slice At t.length ct,vl] 86)) ⟨g,4,none⟩ (.int .u32 n)):=(Mod.of_ext E0).set1 _
 refine⟨rfl,_,by simpa using HX.out.set_ 4 (.int .u32 n),hv.mod M1 (fun k _ hk he=>hA k hk he),M1⟩
theorem Zmr (g:Nat)(m:Mg)(v:Value)(k n:Int)(t:List Int)(vt vl:Value)(A:Nat→Prop)(w:World)(h:Blk w g 224 (mgA m v))(hv:RdS Ub8 A w v m.da)(ht:RdS Ub8 A w vt t)(hA:∀k,A k→k≠g):
  Calls Tryz.prog 247 #[.pointer (some ⟨g,0,none⟩),.agg #[.int .i64 k,.int .u32 n,vt,vl]] w (Zl3 g A {m with ch:=n} w):=by
 obtain⟨Av,cv,rfl,-,-⟩:=hv.shape
 obtain⟨At,ct,rfl,-,-⟩:=ht.shape
 have E0:Ext w (w.alloc (.cells #[.int .i64 k,.int .u32 n,.slice At t.length ct,vl] 86)):=(Ext.refl w).alloc _
 have HX:=zh (h.ext E0)
 have kc:=HX.out.cell 1
 have kf:=HX.out.frozen 1
 clear h
 go_enter Tryz.func247,Tryz.ntmps247
 go_wp2
 go_end0
 have M1:Mod (fun k=>k=g) w (World.setCell (w.alloc (.cells #[.int .i64 k,.int .u32 n,.slice At t.length ct,vl] 86)) ⟨g,1,none⟩ (.int .u32 n)):=(Mod.of_ext E0).set1 _
 refine⟨rfl,_,by simpa using HX.out.set_ 1 (.int .u32 n),hv.mod M1 (fun k _ hk he=>hA k hk he),M1⟩
theorem ZhZ (g:Nat)(m:Mg)(v:Value)(k n:Int)(t:List Int)(vt vl:Value)(A:Nat→Prop)(w:World)(h:Blk w g 224 (mgA m v))(hv:RdS Ub8 A w v m.da)(ht:RdS Ub8 A w vt t)(hA:∀k,A k→k≠g):
  Calls Tryz.prog 233 #[.pointer (some ⟨g,0,none⟩),.agg #[.int .i64 k,.int .u32 n,vt,vl]] w (Zl3 g A {m with da:=t} w):=by
 obtain⟨Av,cv,rfl,-,-⟩:=hv.shape
 obtain⟨At,ct,rfl,-,-⟩:=ht.shape
 have E0:Ext w (w.alloc (.cells #[.int .i64 k,.int .u32 n,.slice At t.length ct,vl] 86)):=(Ext.refl w).alloc _
 have HX:=zh (h.ext E0)
 have kc:=HX.out.cell 9
 have kf:=HX.out.frozen 9
 clear h
 go_enter Tryz.func233,Tryz.ntmps233
 go_wp2
 go_end0
 have M1:Mod (fun k=>k=g) w (World.setCell (w.alloc (.cells #[.int .i64 k,.int .u32 n,.slice At t.length ct,vl] 86)) ⟨g,9,none⟩ (.slice At t.length ct)):=(Mod.of_ext E0).set1 _
 refine⟨rfl,_,by simpa using HX.out.set_ 9 (.slice At t.length ct),ht.mod M1 (fun k _ hk he=>hA k hk he),M1⟩
theorem Zms (g:Nat)(m:Mg)(v:Value)(k n:Int)(t:List Int)(vt vl:Value)(A:Nat→Prop)(w:World)(h:Blk w g 224 (mgA m v))(hv:RdS Ub8 A w v m.da)(ht:RdS Ub8 A w vt t)(hA:∀k,A k→k≠g):
  Calls Tryz.prog 239 #[.pointer (some ⟨g,0,none⟩),.agg #[.int .i64 k,.int .u32 n,vt,vl]] w (Zl3 g A {m with wa:=(n==1)} w):=by
 obtain⟨Av,cv,rfl,-,-⟩:=hv.shape
 obtain⟨At,ct,rfl,-,-⟩:=ht.shape
 have E0:Ext w (w.alloc (.cells #[.int .i64 k,.int .u32 n,.slice At t.length ct,vl] 86)):=(Ext.refl w).alloc _
 have HX:=zh (h.ext E0)
 have kc:=HX.out.cell 8
 have kf:=HX.out.frozen 8
 clear h
 go_enter Tryz.func239,Tryz.ntmps239
 go_wp2
 go_end0
 have M1:Mod (fun k=>k=g) w (World.setCell (w.alloc (.cells #[.int .i64 k,.int .u32 n,.slice At t.length ct,vl] 86)) ⟨g,8,none⟩ (.bool (n==1))):=(Mod.of_ext E0).set1 _
 refine⟨rfl,_,by simpa using HX.out.set_ 8 (.bool (n==1)),hv.mod M1 (fun k _ hk he=>hA k hk he),M1⟩
theorem Zmt (g:Nat)(m:Mg)(v:Value)(k n:Int)(t:List Int)(vt vl:Value)(A:Nat→Prop)(w:World)(h:Blk w g 224 (mgA m v))(hv:RdS Ub8 A w v m.da)(ht:RdS Ub8 A w vt t)(hA:∀k,A k→k≠g):
  Calls Tryz.prog 237 #[.pointer (some ⟨g,0,none⟩),.agg #[.int .i64 k,.int .u32 n,vt,vl]] w (Zl3 g A {m with nm:=strOfNums t} w):=by
 obtain⟨Av,cv,rfl,-,-⟩:=hv.shape
 obtain⟨At,ct,rfl,-,-⟩:=ht.shape
 have E0:Ext w (w.alloc (.cells #[.int .i64 k,.int .u32 n,.slice At t.length ct,vl] 86)):=(Ext.refl w).alloc _
 have HX:=zh (h.ext E0)
 have hcv:(convert 43 9 (.slice At t.length ct)).run Tryz.prog (w.alloc (.cells #[.int .i64 k,.int .u32 n,.slice At t.length ct,vl] 86))=_:=RI.str Tryz.underlying43 Tryz.underlying5 Tryz.underlying9 ((RdS.ri ht).ext E0)
 have kc:=HX.out.cell 6
 have kf:=HX.out.frozen 6
 clear h
 go_enter Tryz.func237,Tryz.ntmps237
 go_wp2
 go_end0
 have M1:Mod (fun k=>k=g) w (World.setCell (w.alloc (.cells #[.int .i64 k,.int .u32 n,.slice At t.length ct,vl] 86)) ⟨g,6,none⟩ (.string (strOfNums t))):=(Mod.of_ext E0).set1 _
 refine⟨rfl,_,by simpa using HX.out.set_ 6 (.string (strOfNums t)),hv.mod M1 (fun k _ hk he=>hA k hk he),M1⟩
theorem Zmu (g:Nat)(m:Mg)(v:Value)(k n:Int)(t:List Int)(vt vl:Value)(A:Nat→Prop)(w:World)(h:Blk w g 224 (mgA m v))(hv:RdS Ub8 A w v m.da)(ht:RdS Ub8 A w vt t)(hA:∀k,A k→k≠g):
  Calls Tryz.prog 235 #[.pointer (some ⟨g,0,none⟩),.agg #[.int .i64 k,.int .u32 n,vt,vl]] w (Zl3 g A {m with la:=strOfNums t} w):=by
 obtain⟨Av,cv,rfl,-,-⟩:=hv.shape
 obtain⟨At,ct,rfl,-,-⟩:=ht.shape
 have E0:Ext w (w.alloc (.cells #[.int .i64 k,.int .u32 n,.slice At t.length ct,vl] 86)):=(Ext.refl w).alloc _
 have HX:=zh (h.ext E0)
 have hcv:(convert 43 9 (.slice At t.length ct)).run Tryz.prog (w.alloc (.cells #[.int .i64 k,.int .u32 n,.slice At t.length ct,vl] 86))=_:=RI.str Tryz.underlying43 Tryz.underlying5 Tryz.underlying9 ((RdS.ri ht).ext E0)
 have kc:=HX.out.cell 7
 have kf:=HX.out.frozen 7
 clear h
 go_enter Tryz.func235,Tryz.ntmps235
 go_wp2
 go_end0
 have M1:Mod (fun k=>k=g) w (World.setCell (w.alloc (.cells #[.int .i64 k,.int .u32 n,.slice At t.length ct,vl] 86)) ⟨g,7,none⟩ (.string (strOfNums t))):=(Mod.of_ext E0).set1 _
 refine⟨rfl,_,by simpa using HX.out.set_ 7 (.string (strOfNums t)),hv.mod M1 (fun k _ hk he=>hA k hk he),M1⟩
def putM (q:Pa)(m:Mg)(f:Fd):Mg:=
 if q.p=231 then {m with co:=f.n} else
 if q.p=241 then {m with se:=f.n} else
 if q.p=243 then {m with wi:=f.n} else
 if q.p=245 then {m with pk:=f.n} else
 if q.p=247 then {m with ch:=f.n} else
 if q.p=239 then {m with wa:=(f.n==1)} else
 if q.p=237 then {m with nm:=strOfNums f.t} else
 if q.p=235 then {m with la:=strOfNums f.t} else
 {m with da:=f.t}
theorem ZiV (args:Array Value)(w:World):(callFunc 231 args).run Tryz.prog w= .ok (.enter 231 args) w:=by kernel_rfl
theorem Zf4 (args:Array Value)(w:World):(callFunc 241 args).run Tryz.prog w= .ok (.enter 241 args) w:=by kernel_rfl
theorem Zf5 (args:Array Value)(w:World):(callFunc 243 args).run Tryz.prog w= .ok (.enter 243 args) w:=by kernel_rfl
theorem Zf6 (args:Array Value)(w:World):(callFunc 245 args).run Tryz.prog w= .ok (.enter 245 args) w:=by kernel_rfl
theorem ZiW (args:Array Value)(w:World):(callFunc 247 args).run Tryz.prog w= .ok (.enter 247 args) w:=by kernel_rfl
theorem ZeT (args:Array Value)(w:World):(callFunc 233 args).run Tryz.prog w= .ok (.enter 233 args) w:=by kernel_rfl
theorem ZiX (args:Array Value)(w:World):(callFunc 239 args).run Tryz.prog w= .ok (.enter 239 args) w:=by kernel_rfl
theorem ZiY (args:Array Value)(w:World):(callFunc 237 args).run Tryz.prog w= .ok (.enter 237 args) w:=by kernel_rfl
theorem ZiZ (args:Array Value)(w:World):(callFunc 235 args).run Tryz.prog w= .ok (.enter 235 args) w:=by kernel_rfl
structure PutsP (q:Pa):Prop where
 enters:∀args w',(callFunc q.p args).run Tryz.prog w'= .ok (.enter q.p args) w'
 puts:∀g m v k f vt vl A w,Blk w g 224 (mgA m v)→RdS Ub8 A w v m.da→RdS Ub8 A w vt f.t→(∀k,A k→k≠g)→Calls Tryz.prog q.p #[.pointer (some ⟨g,0,none⟩),.agg #[.int .i64 k,.int .u32 f.n,vt,vl]] w (Zl3 g A (putM q m f) w)
theorem Zmv {q:Pa}(hq:q∈Zdx):PutsP q:=by
 simp only[Zdx,List.mem_cons,List.not_mem_nil,or_false] at hq
 rcases hq with rfl|rfl|rfl|rfl|rfl|rfl|rfl|rfl|rfl|rfl
 ·exact⟨ZiV,fun g m v k f vt vl A w h1 h2 h3 h4=>Zmq g m v k f.n f.t vt vl A w h1 h2 h3 h4⟩
 ·exact⟨ZeT,fun g m v k f vt vl A w h1 h2 h3 h4=>ZhZ g m v k f.n f.t vt vl A w h1 h2 h3 h4⟩
 ·exact⟨ZiZ,fun g m v k f vt vl A w h1 h2 h3 h4=>Zmu g m v k f.n f.t vt vl A w h1 h2 h3 h4⟩
 ·exact⟨ZiY,fun g m v k f vt vl A w h1 h2 h3 h4=>Zmt g m v k f.n f.t vt vl A w h1 h2 h3 h4⟩
 ·exact⟨ZiX,fun g m v k f vt vl A w h1 h2 h3 h4=>Zms g m v k f.n f.t vt vl A w h1 h2 h3 h4⟩
 ·exact⟨ZeT,fun g m v k f vt vl A w h1 h2 h3 h4=>ZhZ g m v k f.n f.t vt vl A w h1 h2 h3 h4⟩
 ·exact⟨Zf4,fun g m v k f vt vl A w h1 h2 h3 h4=>ZiS g m v k f.n f.t vt vl A w h1 h2 h3 h4⟩
 ·exact⟨Zf5,fun g m v k f vt vl A w h1 h2 h3 h4=>ZiT g m v k f.n f.t vt vl A w h1 h2 h3 h4⟩
 ·exact⟨Zf6,fun g m v k f vt vl A w h1 h2 h3 h4=>ZiU g m v k f.n f.t vt vl A w h1 h2 h3 h4⟩
 ·exact⟨ZiW,fun g m v k f vt vl A w h1 h2 h3 h4=>Zmr g m v k f.n f.t vt vl A w h1 h2 h3 h4⟩
theorem str_back (s:ByteArray):strOfNums (bsL s)=s:=by
 have h:(bsL s).map (fun n=>UInt8.ofNat n.toNat)=s.data.toList:=by
  unfold bsL
  rw[List.map_map]
  conv=>rhs;rw[←List.map_id s.data.toList]
  refine List.map_congr_left fun x _=>?_
  simp
 unfold strOfNums
 rw[h]
def mg0 (k:Int):Mg:=⟨k,0,0,0,0,0,⟨#[]⟩,⟨#[]⟩,false,[]⟩
def putAll (ps:List Pa)(m x:Mg):Mg:=ps.foldl (fun x q=>putM q x (vOf q m)) x
def ownM (m:Mg):Mg:=match rowL m.k with|some ps=>putAll ps m (mg0 m.k)|none=>mg0 m.k
theorem Zg4 {ps:List Pa}{j:Nat}{q:Pa}(h:ps[j]?=some q)(m x:Mg):putAll (ps.take (j+1)) m x=putM q (putAll (ps.take j) m x) (vOf q m):=by
 unfold putAll
 rw[List.take_add_one,h]
 simp
theorem Zh0 {m:Mg}(hm:m.Ok){ps:List Pa}(h:rowL m.k=some ps)(hf:∀f∈flds m ps,fltF f.k f.n f.t=0):∀f∈flds m ps,Zeb f:=by
 intro f hmem
 have h0:=hf f hmem
 have hk:=ZbW h
 unfold Zdr at hk
 unfold flds at hmem
 rcases List.mem_cons.1 hmem with rfl|hmem
 ·exact .inl ⟨rfl,by dsimp only;omega,rfl⟩
 ·obtain⟨q,hq,rfl⟩:=List.mem_map.1 hmem
  have ha:=(ZcO h).2.1 q hq
  obtain⟨h1,h2,h3,h4,h5,-,-,-,-⟩:=hm
  simp only[Zdx,List.mem_cons,List.not_mem_nil,or_false] at ha
  rcases ha with rfl|rfl|rfl|rfl|rfl|rfl|rfl|rfl|rfl|rfl
  ·exact .inr (.inr (.inl ⟨rfl,h5,rfl⟩))
  ·refine .inr (.inr (.inr (.inl ⟨rfl,rfl,?_⟩)))
   simpa [fltF,vOf,paWords] using h0
  ·refine .inr (.inr (.inr (.inl ⟨rfl,rfl,?_⟩)))
   simpa [fltF,vOf,paLang] using h0
  ·refine .inr (.inr (.inr (.inl ⟨rfl,rfl,?_⟩)))
   simpa [fltF,vOf,paName] using h0
  ·refine .inr (.inl ⟨rfl,?_,rfl⟩)
   show 0≤(if m.wa=true then(1:Int) else 0)∧(if m.wa=true then(1:Int) else 0)≤1
   split<;>omega
  ·refine .inr (.inr (.inr (.inr ⟨rfl,rfl,?_⟩)))
   simpa [fltF,vOf,paRest] using h0
  ·exact .inr (.inr (.inl ⟨rfl,h2,rfl⟩))
  ·exact .inr (.inr (.inl ⟨rfl,h3,rfl⟩))
  ·exact .inr (.inr (.inl ⟨rfl,h4,rfl⟩))
  ·exact .inr (.inr (.inl ⟨rfl,h1,rfl⟩))
theorem Zpb {m:Mg}{ps:List Pa}(h:rowL m.k=some ps)(hf:FitP m):FitP (putAll ps m (mg0 m.k)):=by
 have hk:=ZbW h
 unfold Zdr at hk
 obtain⟨k,ch,se,wi,pk,co,nm,la,wa,da⟩:=m
 dsimp only at hk h
 rcases hk with rfl|rfl|rfl|rfl|rfl|rfl|rfl|rfl|rfl|rfl|rfl|rfl|rfl|rfl|rfl
 all_goals
  simp[rowL] at h
  subst h
  simp[FitP,putAll,putM,vOf,mg0,paCode,paWords,paLang,paName,paWant,paRest,paSender,paWindow,paPacket,paChan,str_back] at hf⊢
  try exact hf
theorem Zf7 (ps:List Pa)(m x:Mg)(h1:x.nm.size≤m.nm.size)(h2:x.la.size≤m.la.size)(h3:x.da=[]∨x.da=m.da)(hp:∀q∈ps,q∈Zdx):(putAll ps m x).nm.size≤m.nm.size∧(putAll ps m x).la.size≤m.la.size∧((putAll ps m x).da=[]∨(putAll ps m x).da=m.da):=by
 induction ps generalizing x with
 |nil=>exact⟨h1,h2,h3⟩
 |cons a l ih=>
  have ha:=hp a (List.mem_cons_self)
  have hl:∀q∈l,q∈Zdx:=fun q hq=>hp q (List.mem_cons_of_mem _ hq)
  have key:(putM a x (vOf a m)).nm.size≤m.nm.size∧(putM a x (vOf a m)).la.size≤m.la.size∧((putM a x (vOf a m)).da=[]∨(putM a x (vOf a m)).da=m.da):=by
   simp only[Zdx,List.mem_cons,List.not_mem_nil,or_false] at ha
   rcases ha with rfl|rfl|rfl|rfl|rfl|rfl|rfl|rfl|rfl|rfl
   all_goals simp[putM,vOf,paCode,paWords,paLang,paName,paWant,paRest,paSender,paWindow,paPacket,paChan,str_back]
   all_goals first|exact⟨h1,h2,h3⟩|exact⟨h1,h3⟩|exact⟨h2,h3⟩|exact⟨h1,h2⟩
  exact ih _ key.1 key.2.1 key.2.2 hl
theorem Zf8 (m:Mg):(ownM m).nm.size≤m.nm.size∧(ownM m).la.size≤m.la.size∧((ownM m).da=[]∨(ownM m).da=m.da):=by
 have hz:(⟨#[]⟩:ByteArray).size=0:=rfl
 unfold ownM
 split
 ·rename_i ps hps
  exact Zf7 ps m _ (by show(⟨#[]⟩:ByteArray).size≤_;omega) (by show(⟨#[]⟩:ByteArray).size≤_;omega) (.inl rfl) (ZcO hps).2.1
 ·exact⟨by show(⟨#[]⟩:ByteArray).size≤_;omega,by show(⟨#[]⟩:ByteArray).size≤_;omega,.inl rfl⟩
abbrev Ib:Rep Int:=Rep.int .i64
theorem ZdM:(Tryz.prog.info? 3).map (fun i=>(i.zero,i.size,i.bytes))=some (some (.int .i64 0),Ib.size,8):=by kernel_rfl
def Zsh (m:Mg)(w:World)(e:Ending)(w':World):Prop:=
 ∃v,e= .returned (.tuple #[.agg (mgA (ownM m) v),.int .i64 0])∧RdS Ub8 (fun k=>w.heap.size≤k) w' v (ownM m).da∧Ext w w'
theorem ZcP (m:Mg)(ps:List Pa)(vb:Value)(w:World)(h:RI .u8 w vb (encL (flds m ps)))(hps:rowL m.k=some ps)(hm:m.Ok)(hf:∀f∈flds m ps,fltF f.k f.n f.t=0)(hfit:FitP m):
  Calls Tryz.prog 71 #[vb] w (Zsh m w):=by
 have hiM:=zi Tryz.prog 62 10
 have hiP:=zi Tryz.prog 228 3
 have hi:=zi Tryz.prog 86 4
 obtain⟨A,c,rfl,hc1,hc2⟩:=h.shape
 obtain⟨r,hr⟩:∃r,encL (flds m ps)=m.k::r:=⟨encL (ps.map (fun q=>vOf q m)),by simp[encL,flds,encF]⟩
 obtain⟨L,hL⟩:=zm ((encL (flds m ps)).length)
 have hL0:0<L:=by rw[←hL,hr];simp
 have HL:=zh hL
 have HPS:=zh hps
 have HFT:=zh hf
 have HOK:=zh hm
 have HOWN:Hid (ownM m=putAll ps m (mg0 m.k)):=zh (by unfold ownM;rw[hps])
 have HFI:=zh (Zpb hps hfit)
 have H:=zh (show RdN w 1 (.slice A L c) (encL (flds m ps)).length ((encL (flds m ps)).map (Value.int .u8)) by rw[←hL];exact h)
 have hkb:0≤m.k∧m.k≤100:=by have h9:=ZbW hps;unfold Zdr at h9;omega
 have HRW:=zh (fun w'=>ZhU m.k w')
 have hwr:IntKind.i64.wrap m.k=m.k:=by unfold IntKind.wrap;simp[IntKind.bits,IntKind.signed];omega
 rw[hL] at hc1⊢
 have hLi:¬((L:Int)=0):=by omega
 have hLb:((L:Int)==0)=false:=by simpa using hLi
 obtain⟨b,off,x,rfl,kx,hx⟩:=RdN.icell (l:=encL (flds m ps)) (k:=.u8) H.out hL0
 rw[Nat.add_zero] at kx
 have hxk:x=m.k:=by
  have h9:=hx.out
  rw[hr] at h9
  simpa using h9.symm
 subst hxk
 obtain⟨W1,hW1⟩:=zn (w.alloc (.cells #[.int .i64 0,.int .u32 0,.int .u32 0,.int .u32 0,.int .u32 0,.int .u32 0,.string ⟨#[]⟩,.string ⟨#[]⟩,.bool false,.slice none 0 0] 62))
 have E1:Ext w W1:=by rw[hW1];exact(Ext.refl _).alloc _
 have P1:=zh (show Blk W1 w.heap.size 62 (mgA (mg0 0) (.slice none 0 0)) by rw[hW1];exact Blk.new w _ _)
 have HW1:=zh hW1
 have HKX:=zh kx
 clear h hps hf hm hfit hr hL hx kx hW1
 go_enter Tryz.func71,Tryz.ntmps71
 go_upto_region 1 with fail
 rw[←HW1.out]
 have kx:=Zaa E1 HKX.out
 clear HW1
 go_wp2_with fail
 refine(HRW.out _).mono ?_
 rintro e w2 ⟨E2,hrow⟩
 rw[HPS.out] at hrow
 obtain⟨Ap,rfl,hpart⟩:=hrow
 have HPT:=zh hpart
 have E02:Ext w w2:=E1.trans E2
 have P2:=zh (P1.out.ext E2)
 have hs2:=E02.size
 have HRK:=zh (ZcO HPS.out)
 obtain⟨K,hK⟩:=zm (ps.length)
 have HKL:=zh hK
 have hK5:K≤5:=by have:=HRK.out.1;omega
 rw[hK]
 clear hpart kx E1 E2 P1 hK HRW
 go_upto_region 7 with fail
 have HO0:=zh (show OwnS Ib 3 w2.heap.size (fun _=>False) (w2.alloc (.cells #[.int .i64 1] 3)) (.slice (some ⟨w2.heap.size,0,none⟩) 1 1) ((1::ps.map (·.k)).take 1) from by
  refine OwnS.litB (A:=fun _=>False) (cs:=[.int .i64 1]) ?_ (Blk.new _ _ _) (fun k _ h=>h.elim) (Nat.le_refl _) rfl (by omega)
  exact RdE.single (e:=Ib) (d:=1) rfl)
 have HE0:=zh ((Ext.refl w2).alloc (.cells #[.int .i64 1] 3))
 go_wp2
 go_loopw [6,32] (fun u i wr=>∃j:Nat,j≤K∧i= .int .i64 j∧Hid (OwnS Ib 3 w2.heap.size (fun _=>False) wr u ((1::ps.map (·.k)).take (j+1)))∧Hid (Ext w2 wr)) (fun _ i _=>K - (intOf i).toNat)
 case atStart=>exact⟨0,Nat.zero_le _,rfl,HO0,HE0⟩
 case round=>
  clear HO0 HE0
  obtain⟨j,hj,rfl,HO,hE⟩:=hrel
  by_cases hjk:j<K
  ·obtain⟨q,hq⟩:∃q,ps[j]?=some q:=⟨_,List.getElem?_eq_getElem (by rw[HKL.out];exact hjk)⟩
   obtain⟨gp,rfl,hgp,hbp⟩:∃g,Ap=some ⟨g,0,none⟩∧W1.heap.size≤g∧Blk w2 g 228 (ps.flatMap (fun q=>(paA q).toList)).toArray:=by
    rcases HPT.out with h9|h9
    ·rw[h9] at hq;simp at hq
    ·exact h9
   obtain⟨c0,c1,c2⟩:=Zpa (hbp.ext hE.out) hq
   have HQ:=zh hq
   clear hbp hq
   go_upto_region 10 with(refine wpList_store_M rfl 228 _ _ rfl wr.heap.size _ rfl rfl 228 _ (Blk.new _ _ _) hiP rfl (by simp[Value.oneCell']) ?_;intro w10 P10 M10)
   have E10:Ext wr w10:=Mod.toExt ((Ext.refl wr).alloc _) M10 (fun k hk he=>by omega)
   have kp0:=P10.cell 0
   have hE10:=zh (hE.out.trans E10)
   have HO10:=zh (HO.out.ext E10)
   have hlm:((1::ps.map (·.k)).take (j+1)).length=j+1:=by rw[List.length_take];simp[HKL.out];omega
   obtain⟨Ao,co,rfl,-,-⟩:=HO.out.shape
   rw[hlm] at HO10⊢
   have hvf:(1::ps.map (·.k))[j+1]?=some q.k:=by rw[List.getElem?_cons_succ,List.getElem?_map,HQ.out];rfl
   have HVF:=zh hvf
   have HRow:=zh HO10.out.row
   have hb10:=hE10.out.size
   clear HO hE E10 M10 P10 c0 c1 c2 hvf
   go_wp2_with(at_builtin;refine wpList_app (e:=Ib) (base:=w2.heap.size) (B:=fun _=>False) (A:=fun _=>False) rfl (.tmp 36) (.tmp 39) rfl Tryz.underlying109 ZdM rfl (HO10.out.alloc _) rfl (RdY.singleB (e:=Ib) (cs:=[.int .i64 q.k]) (d:=q.k) rfl (Blk.new _ _ _)) rfl (fun k _ hk=>hk.elim) (N:=j+1+1) (by rw[hlm];rfl) (by unfold maxLen;omega) (by omega) (by simp;omega) ?_;intro A14 c14 w14 o14 M14 L14)
   have M15:Mod (fun k=>(Value.slice Ao (j+1) co).ownBlock=some k) w10 w14:=(Mod.of_ext ((Ext.refl w10).alloc _)).trans M14
   refine⟨⟨j+1,by omega,by go_num,zh ?_,zh ?_⟩,by simp[intOf];omega⟩
   ·rw[List.take_add_one,HVF.out]
    exact o14
   ·exact Mod.toExt hE10.out M15 (fun k hk he=>by have:=(HRow.out _ he).1;omega)
  ·obtain rfl:j=K:=by omega
   obtain⟨wq,rfl⟩:=zn (wr)
   have hta:(1::ps.map (·.k)).take (j+1)=(flds m ps).map (·.k):=by
    rw[Zkd]
    exact List.take_of_length_le (by simp[HKL.out])
   rw[hta] at HO
   have hrk:RI .i64 wq _ ((flds m ps).map (·.k)):=RdS.ri HO.out.rdT
   have E0r:=E02.trans hE.out
   have HRD:=zh (Zf0 _ _ (flds m ps) wq hrk (RdN.ext (show RI .u8 w (.slice (some ⟨b,off,none⟩) L c) (encL (flds m ps)) from H.out) E0r) (by have:=HKL.out;simp[flds];omega) (by rw[Zkd];exact HRK.out.2.2) (Zh0 HOK.out HPS.out HFT.out))
   obtain⟨Ao,co,rfl,-,-⟩:=HO.out.shape
   have hlk:((flds m ps).map (·.k)).length=j+1:=by rw[List.length_map];simp[flds,HKL.out]
   rw[hlk] at HRD⊢
   have E0r:=zh E0r
   have Pr:=zh (P2.out.ext hE.out)
   have HPT:=zh (show ps=[]∨∃g,Ap=some ⟨g,0,none⟩∧W1.heap.size≤g∧Blk wq g 228 (ps.flatMap (fun q=>(paA q).toList)).toArray from HPT.out.imp id (fun⟨g,h1,h2,h3⟩=>⟨g,h1,h2,h3.ext hE.out⟩))
   clear hta hrk hlk HO P2 hE
   go_wp2_with fail
   with_reducible refine(HRD.out).mono ?_
   rintro e w3 ⟨vl,rfl,o3,E3⟩
   obtain⟨Al,cl,rfl,-,-⟩:=o3.shape
   have hll:(flds m ps).length=j+1:=by simp[flds,HKL.out]
   have HL3:=zh ((o3.rd (A:=fun k=>wq.heap.size≤k) (fun k hk=>hk) (fun k hk=>hk)).lt)
   rw[hll] at HL3⊢
   have E03:=E0r.out.trans E3
   have kx:=Zaa E03 HKX.out
   have P3:=zh (Pr.out.ext E3)
   have HPT:=zh (show ps=[]∨∃g,Ap=some ⟨g,0,none⟩∧g<w3.heap.size∧Blk w3 g 228 (ps.flatMap (fun q=>(paA q).toList)).toArray from HPT.out.imp id (fun⟨g,h1,h2,h3⟩=>⟨g,h1,(h3.ext E3).lt,h3.ext E3⟩))
   have hr3:=E3.size
   have hwn3:w.heap.size<w3.heap.size:=P3.out.lt
   have hr0:w.heap.size<wq.heap.size:=Pr.out.lt
   clear o3 hll E3 E0r Pr HRD
   go_upto_region 16 with fail
   obtain⟨W4,hW4⟩:=zn (w3.alloc (.cells #[.int .i64 m.k,.int .u32 0,.int .u32 0,.int .u32 0,.int .u32 0,.int .u32 0,.string ⟨#[]⟩,.string ⟨#[]⟩,.bool false,.slice none 0 0] 224))
   have E4:Ext w3 W4:=by rw[hW4];exact(Ext.refl _).alloc _
   have P4:=zh (show Blk W4 w3.heap.size 224 (mgA (mg0 m.k) (.slice none 0 0)) by rw[hW4];exact Blk.new w3 _ _)
   rw[←hW4]
   clear hW4
   obtain⟨n11,hn11⟩:=zm (w3.heap.size)
   have E04:=E03.trans E4
   have P34:=zh (P3.out.ext E4)
   have HL4:=zh ((HL3.out.mono (B:=fun k=>wq.heap.size≤k∧k<n11) (fun k _ hk=>by rw[←hn11];exact hk)).ext E4)
   have HPT:=zh (show ps=[]∨∃g,Ap=some ⟨g,0,none⟩∧g<n11∧Blk W4 g 228 (ps.flatMap (fun q=>(paA q).toList)).toArray from HPT.out.imp id (fun⟨g,h1,h2,h3⟩=>⟨g,h1,by rw[←hn11];exact h2,h3.ext E4⟩))
   rw[hn11] at P4 hr3 hwn3⊢
   clear HL3 kx E03 P3 E4 hn11
   go_wp2
   go_loopw [61] (fun i wz=>∃ (q:Nat) (v:Value),q≤j∧i= .int .i64 q∧Hid (Blk wz n11 224 (mgA (putAll (ps.take q) m (mg0 m.k)) v))∧Hid (RdS Ub8 (fun k=>wq.heap.size≤k∧k<n11) wz v (putAll (ps.take q) m (mg0 m.k)).da)∧Hid (Mod (fun k=>k=n11) W4 wz)) (fun i _=>j - (intOf i).toNat)
   case atStart=>exact⟨0,_,Nat.zero_le _,rfl,P4,zh (RdS.nil _ _ _),zh (Mod.refl _ _)⟩
   case round=>
    clear P4
    obtain⟨q,v,hq,rfl,PX,HV,HM⟩:=hrel
    by_cases hqj:q<j
    ·obtain⟨p,hp⟩:∃p,ps[q]?=some p:=⟨_,List.getElem?_eq_getElem (by rw[HKL.out];exact hqj)⟩
     obtain⟨gp,rfl,hgp,hbp⟩:∃g,Ap=some ⟨g,0,none⟩∧g<n11∧Blk W4 g 228 (ps.flatMap (fun q=>(paA q).toList)).toArray:=by
      rcases HPT.out with h9|h9
      ·rw[h9] at hp;simp at hp
      ·exact h9
     obtain⟨c0,c1,c2⟩:=Zpa (hbp.mod HM.out (by omega)) hp
     have hputs:=Zmv (HRK.out.2.1 p (List.mem_of_getElem? hp))
     have hen:=hputs.enters
     have HPU:=zh hputs.puts
     have HQ:=zh hp
     have HLr:=zh (HL4.out.mod HM.out (fun k _ hk he=>by omega))
     clear hbp hp hputs
     go_upto_region 19 with(refine wpList_store_M rfl 228 _ _ rfl wr.heap.size _ rfl rfl 228 _ (Blk.new _ _ _) hiP rfl (by simp[Value.oneCell']) ?_;intro w18 P18 M18)
     have E18:Ext wr w18:=Mod.toExt ((Ext.refl wr).alloc _) M18 (fun k hk he=>by omega)
     have P18:=zh P18
     obtain⟨bl,ol,At,ct,f,hAl,d0,d1,d2,d3,hd,ht⟩:=Zfh (HLr.out.ext E18).y (j:=q+1) (by omega)
     subst hAl
     have hfv:f=vOf p m:=by
      have h9:=hd.out
      unfold flds at h9
      rw[List.getElem?_cons_succ,List.getElem?_map,HQ.out] at h9
      simpa using h9.symm
     have HFV:=zh hfv
     clear hfv
     have hbl:bl<n11:=(HLr.out.2 (by simp[flds]) bl rfl).2
     have hn18:n11<wr.heap.size:=PX.out.lt
     have hbw:bl<w18.heap.size:=by have:=E18.size;omega
     have PX:=zh (PX.out.ext E18)
     have HV:=zh (HV.out.ext E18)
     have HM:=zh (HM.out.ext E18)
     clear M18 E18 c0 c1 c2 hd
     refine zg (fun w'=>Mod (fun k=>k=n11) w18 w') (Mod.of_ext (Ext.drew (Ext.refl _))) fun hHeld=>?_
     have hw1:IntKind.i64.wrap ((q:Int)+1)=(q:Int)+1:=by have h9:=(HRK.out).1;unfold IntKind.wrap;simp[IntKind.bits,IntKind.signed];omega
     have hi1:(0:Int)≤(q:Int)+1:=by omega
     have hi2:(q:Int)+1<((j+1:Nat):Int):=by omega
     have hi3:(q:Int)<(j:Int):=by omega
     have hbn:¬bl=n11:=by omega
     have hwn:¬wr.heap.size=n11:=by omega
     obtain⟨D,hD⟩:=zn (w18.drew)
     have ED:Ext w18 D:=by rw[hD];exact(Ext.refl _).drew
     rw[←hD] at hHeld⊢
     clear hD
     refine zr 0 ?_
     (refine zu 1 (fun _ h=>(P18.out.mod h hwn).cell 2) ?_)
     refine zr 2 ?_
     refine zr 3 ?_
     refine zr 4 ?_
     refine zr 5 ?_
     refine zr 6 ?_
     (refine zT (i:=7) (v:=?_) rfl (Or.inl ⟨by rfl,?_⟩) ?_;rotate_left;(focus(intro w' hSw;have kc0:=(hSw.cell bl (ol+(q+1)*4) hbw hbn).trans d0;have kc1:=(hSw.cell bl (ol+(q+1)*4+1) hbw hbn).trans d1;have kc2:=(hSw.cell bl (ol+(q+1)*4+2) hbw hbn).trans d2;have kc3:=(hSw.cell bl (ol+(q+1)*4+3) hbw hbn).trans d3;go_simp;try with_reducible rfl));(try simp only[zP]))
     refine zw 8 fun K hK=>?_
     go_simp
     refine(HPU.out n11 _ v _ f _ _ (fun k=>wq.heap.size≤k∧k<n11) D (PX.out.ext ED) (HV.out.ext ED) (ht.out.ext ED) (fun k hk he=>by omega)).mono ?_
     rintro e w19 ⟨rfl,v2,B19,V19,M19⟩
     (try dsimp only)
     have M20:=(Mod.of_ext (S:=fun k=>k=n11) ED).trans M19
     refine zo hK M20 fun hHeld=>?_
     clear hK K
     refine zd ?_
     have hpt:=Zg4 HQ.out m (mg0 m.k)
     rw[←HFV.out] at hpt
     rw[←hpt] at B19 V19
     have B19:=zh B19
     have V19:=zh V19
     have M21:=zh (HM.out.trans M20)
     clear M19 M20 hHeld hpt hen d0 d1 d2 d3
     go_wp2
     exact⟨⟨q+1,v2,by omega,by go_num,B19,V19,M21⟩,by simp[intOf];omega⟩
    ·obtain rfl:q=j:=by omega
     rw[List.take_of_length_le (by rw[HKL.out];exact Nat.le_refl _),←HOWN.out] at PX HV
     have HFI:=HFI.out
     rw[←HOWN.out] at HFI
     obtain⟨Av,cv,rfl,-,-⟩:=HV.out.shape
     have hown1:(ownM m).nm.size≤1000000:=by have:=(Zf8 m).1;have:=HOK.out.nm;omega
     have hown2:(ownM m).la.size≤1000000:=by have:=(Zf8 m).2.1;have:=HOK.out.la;omega
     have HFM:=zh (fun w'=>ZfZ (ownM m) (.slice Av (ownM m).da.length cv) w' hown1 hown2)
     go_wp2_with(first|(refine wpList_load_row rfl 62 _ rfl _ rfl 224 _ _ _ PX.out Tryz.underlying62 rfl hiM ?_)|fail)
     refine(HFM.out _).mono ?_
     rintro e w9 ⟨qf,rfl,hqf,E9⟩
     obtain rfl:qf=true:=hqf.2 HFI
     have P9:=zh (PX.out.ext E9)
     have Pr:=zh ((P34.out.mod HM.out (by omega)).ext E9)
     have HV9:=zh (HV.out.ext E9)
     have HM9:=zh (HM.out.ext E9)
     have HRES:=zh (show ∀v e w',(e= .returned (.tuple #[.agg (mgA (ownM m) v),.int .i64 0])∧RdS Ub8 (fun k=>w.heap.size≤k) w' v (ownM m).da∧Ext w w')→Zsh m w e w' from fun v _ _ h=>⟨v,h⟩)
     generalize ownM m=om at*
     clear HFM HFI HKX HL HPS HFT HOK HOWN HKL HRK hkb hwr hLi hLb
     clear HM PX HV hqf hown1 hown2 E9
     generalize Value.agg #[.int .i64 m.k,.int .u32 0,.int .u32 0,.int .u32 0,.int .u32 0,.int .u32 0,.string ⟨#[]⟩,.string ⟨#[]⟩,.bool false,.slice none 0 0]=z56
     generalize Value.agg (mgA om (.slice Av om.da.length cv))=z79
     go_upto_region 23 with fail
     go_wp2_with(first|(refine wpList_load_row rfl 62 _ rfl _ rfl 224 _ _ _ P9.out Tryz.underlying62 rfl hiM ?_)|(refine wpList_store_M rfl 62 _ _ rfl w.heap.size _ rfl rfl 62 _ Pr.out hiM rfl (by simp[Value.oneCell']) ?_;intro w10 P10 M10))
     refine bodyPost_ret_by (Kb.Zab Tryz.results71 _ _ w.heap.size 62 _ _ _ rfl _ rfl P10 Tryz.underlying62 rfl hiM) rfl ?_
     refine HRES.out _ _ _ ⟨rfl,?_,?_⟩
     ·exact(HV9.out.mod M10 (fun k _ hk he=>by omega)).mono (fun k _ hk=>by omega)
     ·exact Mod.toExt (Mod.toExt E04 HM9.out (fun k hk he=>by omega)) M10 (fun k hk he=>by omega)
end Go.Proofs.YtmmhcllibpmfnaaGreatDoor
namespace Go.Proofs.YtmmhcllibpmfnaaGreatDoor.Fr
open Go.RowKit Go.Kb Go.Kb.Frame
theorem Zfj (n:Int)(t:List Int):hd4 (four n++t)=n:=by
 simp only[hd4,four,List.cons_append,List.nil_append,List.getD_cons_zero,List.getD_cons_succ]
 omega
theorem Zmw (p t:List Int)(h:1≤p.length∧p.length≤33792):Zbd (four p.length++p++t)=(p::(Zbd t).1,(Zbd t).2):=by
 have e1:hd4 (four p.length++p++t)=(p.length:Int):=by rw[List.append_assoc];exact Zfj _ _
 have hl:(four (p.length:Int)).length=4:=rfl
 rw[ZcK (n:=p.length) (by simp only[List.length_append,hl];omega) (by rw[e1];omega) e1 (by simp only[List.length_append,hl];omega)]
 have e2:((four (p.length:Int)++p++t).drop 4).take p.length=p:=by
  rw[List.append_assoc,List.drop_append_of_le_length (by simp[hl])]
  simp[four]
 have e3:(four (p.length:Int)++p++t).drop (4+p.length)=t:=by
  rw[←List.drop_drop,List.append_assoc,List.drop_append_of_le_length (by simp[hl])]
  simp[four]
 rw[e2,e3]
end Go.Proofs.YtmmhcllibpmfnaaGreatDoor.Fr
