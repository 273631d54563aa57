/- Parts OU04 Tail MY28 Late MZ28 NA28 OD28 QE28 RE28 RF28 RG28. No condition. -/
import Derived.Test.YtmmhcllibpmfnaaGreatDoorYB01
import Derived.Test.YtmmhcllibpmfnaaGreatDoorYB03
import Derived.Deep.RegionLaw
import Derived.Deep.RegionHeld
import Derived.Deep.CutBlock
import Derived.Lib.SlBytesConst
import Derived.MapKept
set_option maxRecDepth 100000
set_option maxHeartbeats 8000000
namespace Go.Proofs.YtmmhcllibpmfnaaGreatDoor
open Go.RowKit Go.Kb Go.Kb.Frame
def MgR:Rep Mg where
 size:=10
 pos:=by decide
 rel:=fun A w cs m=>∃v,cs=(mgA m v).toList∧RdS Ub8 A w v m.da
 len:=fun⟨v,h,_⟩=>by rw[h];rfl
 one:=fun⟨v,h,h2⟩ u hu=>by
  obtain⟨Ad,c,rfl,_⟩:=h2.shape
  rw[h] at hu
  simp at hu
  rcases hu with rfl|rfl|rfl|rfl|rfl|rfl|rfl|rfl|rfl|rfl<;>rfl
 keep:=fun⟨v,h,h2⟩ hk=>⟨v,h,h2.keep hk⟩
theorem Zpc {A:Nat→Prop}{w:World}{Ad:Option Addr}{n c j:Nat}{ms:List Mg}(h:RdY MgR A w (.slice Ad n c) ms)(hj:j<n):
  ∃b off m At ct,Ad=some ⟨b,off,none⟩∧Hid (w.rangeAt b (off+j*10) (mgA m (.slice At m.da.length ct)).toList)∧Hid (ms[j]?=some m)∧Hid (RdS Ub8 A w (.slice At m.da.length ct) m.da):=by
 obtain⟨Ad',c',hv,_⟩:=h.shape
 simp only[Value.slice.injEq] at hv
 obtain⟨rfl,rfl,rfl⟩:=hv
 obtain⟨b,off,c,d,cs,hv,hd,⟨v,rfl,hr⟩,hl,hc⟩:=h.cells hj
 simp only[Value.slice.injEq] at hv
 obtain⟨At,ct,rfl,-,-⟩:=hr.shape
 exact⟨b,off,d,At,ct,hv.1,zh hc,hd,zh hr⟩
def encM (m:Mg):List Int:=match rowL m.k with|some ps=>encL (flds m ps)|none=>[]
structure GoodM (m:Mg):Prop where
 ok:m.Ok
 ps:∃ps,rowL m.k=some ps∧FitP m∧(∀f∈flds m ps,fltF f.k f.n f.t=0)∧(encL (flds m ps)).length≤33792
theorem Za2 {m:Mg}(h:GoodM m):1≤(encM m).length∧(encM m).length≤33792:=by
 obtain⟨ps,h1,-,-,h2⟩:=h.ps
 unfold encM
 rw[h1]
 exact⟨by simp[encL,flds,encF],h2⟩
theorem Zfk (n:Int)(h0:0≤n)(h1:n≤4294967295):Bs (Fr.four n):=by
 intro x hx
 simp only[Fr.four,List.mem_cons,List.not_mem_nil,or_false] at hx
 rcases hx with rfl|rfl|rfl|rfl<;>omega
theorem bsL_bs (s:ByteArray):Bs (bsL s):=by
 intro x hx
 obtain⟨u,_,rfl⟩:=List.mem_map.1 hx
 have:=u.toNat_lt
 omega
theorem Zom {f:Fd}(h:Zeb f)(ht:Bs f.t):Bs (encF f.k f.n f.t):=by
 obtain⟨k,n,t⟩:=f
 rcases h with⟨rfl,hn,-⟩|⟨rfl,hn,-⟩|⟨rfl,hn,-⟩|⟨rfl,-,hl⟩|⟨rfl,-,-⟩
 ·intro x hx
  simp[encF] at hx
  dsimp only at hn
  omega
 ·intro x hx
  simp[encF] at hx
  dsimp only at hn
  omega
 ·have:encF 3 n t=Fr.four n:=by simp[encF]
  show Bs (encF 3 n t)
  rw[this]
  exact Zfk n hn.1 hn.2
 ·have:encF 4 n t=Fr.four t.length++t:=by simp[encF]
  show Bs (encF 4 n t)
  rw[this]
  intro x hx
  rcases List.mem_append.1 hx with hx|hx
  ·exact Zfk _ (by omega) (by dsimp only at hl;omega) x hx
  ·exact ht x hx
 ·have:encF 6 n t=t:=by simp[encF]
  show Bs (encF 6 n t)
  rw[this]
  exact ht
theorem ZqW {q:Pa}{m:Mg}(h:m.Ok):Bs (vOf q m).t:=by
 unfold vOf
 repeat' split
 all_goals first
  |exact bsL_bs _
  |exact h.bs
  |(intro x hx;simp at hx)
theorem Zg5 {m:Mg}(h:GoodM m):Bs (encM m):=by
 obtain⟨ps,h1,-,h2,-⟩:=h.ps
 unfold encM
 rw[h1]
 intro x hx
 simp only[encL,List.mem_flatten,List.mem_map] at hx
 obtain⟨l,⟨f,hf,rfl⟩,hx⟩:=hx
 refine Zom (Zh0 h.ok h1 h2 f hf) ?_ x hx
 unfold flds at hf
 rcases List.mem_cons.1 hf with rfl|hf
 ·intro y hy;simp at hy
 ·obtain⟨q,hq,rfl⟩:=List.mem_map.1 hf
  exact ZqW h.ok
end Go.Proofs.YtmmhcllibpmfnaaGreatDoor
namespace Go.Kb
open Go.RowKit
section
variable {D:Type} {e:Rep D} {T:TypeId} {A F G:Nat→Prop} {S:Nat→Prop} {w w':World} {cs us:List Value} {d:D} {ds:List D} {v v':Value}
theorem Blk.setCells {g:Nat}{t:TypeId}:∀ (vs:List Value) (o:Nat) (w:World) (cs:Array Value),Blk w g t cs→o+vs.length≤cs.size→Blk (w.setCells g o vs) g t (cs.toList.take o++vs++cs.toList.drop (o+vs.length)).toArray
 | [],o,w,cs,h,_=>by
  have e:w.setCells g o []=w:=rfl
  rw[e]
  simpa using h
 |u::r,o,w,cs,h,hl=>by
  simp only[List.length_cons] at hl
  have h1:=Blk.setCells r (o+1) _ _ (h.set_ o u) (by simp;omega)
  have e1:((cs.setIfInBounds o u).toList.take (o+1)++r++ (cs.setIfInBounds o u).toList.drop (o+1+r.length))=cs.toList.take o++u::r++cs.toList.drop (o+(u::r).length):=by
   have hlt:o<cs.toList.length:=by simp;omega
   rw[Array.toList_setIfInBounds,List.set_eq_take_append_cons_drop,if_pos hlt]
   have h2:(cs.toList.take o).length=o:=by simp;omega
   have h3:(cs.toList.take o++u::cs.toList.drop (o+1)).take (o+1)=cs.toList.take o++ [u]:=by
    rw[List.take_append,h2,List.take_of_length_le (by omega)]
    simp
   have h4:(cs.toList.take o++u::cs.toList.drop (o+1)).drop (o+1+r.length)=cs.toList.drop (o+(u::r).length):=by
    rw[List.drop_append,h2,List.drop_eq_nil_of_le (by omega),List.nil_append,show o+1+r.length - o=r.length+1 by omega,List.drop_succ_cons,List.drop_drop,List.length_cons]
    congr 1
    omega
   rw[h3,h4]
   simp
  rw[←e1]
  exact h1
theorem Mod.setCells {g:Nat}:∀ (vs:List Value) (o:Nat) (a w:World),Mod (fun k=>k=g) a w→Mod (fun k=>k=g) a (w.setCells g o vs)
 | [],_,_,_,h=>h
 |u::r,o,a,_,h=>Mod.setCells r (o+1) a _ (h.set1 u)
def Zbl (e:Rep D)(T:TypeId)(F:Nat→Prop)(w:World)(v:Value)(ds:List D):Prop:=
 ∃us,RdE e (fun k=>F k∧v.ownBlock≠some k) w us ds∧((v= .slice none 0 0∧ds=[])∨
  ∃g off c cur,v= .slice (some ⟨g,off,none⟩) ds.length c∧F g∧Blk w g T cur∧off+c≤cur.size∧ds.length≤c∧c≤9223372036854775807∧(cur.toList.drop off).take ds.length=us)
theorem Zbl.nil (e:Rep D)(T:TypeId)(F:Nat→Prop)(w:World):Zbl e T F w (.slice none 0 0) []:=⟨[],RdE.nil _ _ _,.inl ⟨rfl,rfl⟩⟩
theorem Zbl.keep (h:Zbl e T F w v ds)(hk:∀k,k<w.heap.size→F k→G k∧w'.heap[k]?=w.heap[k]?):Zbl e T G w' v ds:=by
 obtain⟨us,he,h⟩:=h
 refine⟨us,he.keep fun k hl ha=>⟨⟨(hk k hl ha.1).1,ha.2⟩,(hk k hl ha.1).2⟩,?_⟩
 rcases h with h|⟨g,off,c,cur,hv,hF,hb,h⟩
 ·exact .inl h
 ·exact .inr ⟨g,off,c,cur,hv,(hk g hb.lt hF).1,(hk g hb.lt hF).2.trans hb,h⟩
theorem Zbl.ext (h:Zbl e T F w v ds)(hE:Ext w w'):Zbl e T F w' v ds:=h.keep fun k hk ha=>⟨ha,hE.block k hk⟩
theorem Zbl.mod (h:Zbl e T F w v ds)(hM:Mod S w w')(hS:∀k,k<w.heap.size→F k→¬S k):Zbl e T F w' v ds:=h.keep fun k hk ha=>⟨ha,hM.block k hk (hS k hk ha)⟩
theorem Zbl.mono (h:Zbl e T F w v ds)(hS:∀k,k<w.heap.size→F k→G k):Zbl e T G w v ds:=h.keep fun k hk ha=>⟨hS k hk ha,rfl⟩
theorem Zbl.rd (he:e.size=1)(h:Zbl e T F w v ds):RdS e F w v ds:=by
 obtain⟨us,hr,h⟩:=h
 have hlen:us.length=ds.length:=by have:=hr.1;rw[he,Nat.mul_one] at this;exact this
 rcases h with⟨rfl,rfl⟩|⟨g,off,c,cur,rfl,hF,hb,h1,h2,h3,h4⟩
 ·exact RdS.nil _ _ _
 ·refine⟨⟨us,⟨hr.1,_,c,rfl,h2,h3,.inr ⟨g,off,rfl,fun j u hu=>?_⟩⟩,hr.keep fun k _ ha=>⟨ha.1,rfl⟩⟩,fun _ k hk=>?_⟩
  ·rw[hb.cell,←Array.getElem?_toList,←hu,←h4,List.getElem?_take,if_pos (by rw[←hlen];exact(List.getElem?_eq_some_iff.1 hu).1),List.getElem?_drop]
  ·simp only[Value.ownBlock,Option.some.injEq] at hk
   exact hk ▸ hF
theorem Zbl.shape (h:Zbl e T F w v ds):∃Ad c,v= .slice Ad ds.length c∧ds.length≤c∧c≤9223372036854775807:=by
 obtain⟨us,_,⟨rfl,rfl⟩|⟨g,off,c,cur,rfl,_,_,_,h2,h3,_⟩⟩:=h
 ·exact⟨_,_,rfl,by simp,by simp⟩
 ·exact⟨_,_,rfl,h2,h3⟩
theorem Zbl.own {base:Nat}{us:List Value}(hr:RdE e A w us ds)(ho:w.ownsRow base T 1 v ds.length us)(hA:∀k,k<w.heap.size→A k→F k∧v.ownBlock≠some k)(hv:∀k,v.ownBlock=some k→F k):Zbl e T F w v ds:=by
 refine⟨us,hr.keep fun k hk ha=>⟨hA k hk ha,rfl⟩,?_⟩
 rcases ho.2 with⟨rfl,h0⟩|⟨g,cap,cur,rfl,hb,hh,h1,h2,h3,h4⟩
 ·exact .inl ⟨rfl,List.eq_nil_of_length_eq_zero h0⟩
 ·exact .inr ⟨g,0,cap,cur,rfl,hv g rfl,hh,by omega,h1,by unfold maxLen at h2;omega,by simpa using h4⟩
variable {P:Program} {z:Value} {bytes:Nat} {t:TypeId}
end
end Go.Kb
namespace Go.Proofs.YtmmhcllibpmfnaaGreatDoor
open Go.RowKit Go.Kb
abbrev muxA (v:Value)(dd:Bool):Array Value:=#[v,.int .u32 4096,.bool dd]
theorem ZqX {A B:Nat→Prop}{w:World}{v:Value}{cs:List Ch}(h:RdY ChR A w v cs):RdY ChR B w v cs:=h
def Zmx (cs:List Ch)(dd:Bool)(w:World)(e:Ending)(w':World):Prop:=
 ∃Ad c,e= .returned (.agg (muxA (.slice Ad cs.length c) dd))∧OwnS ChR 156 w.heap.size (fun _=>False) w' (.slice Ad cs.length c) cs∧Ext w w'
theorem Zh1 {A:Nat→Prop}(v:Value)(dd:Bool)(cs:List Ch)(w:World)(h:RdY ChR A w v cs)(hn:cs.length≤1000):Calls Tryz.prog 145 #[.agg (muxA v dd)] w (Zmx cs dd w):=by
 have hiM:=zi Tryz.prog 72 3
 obtain⟨Ad,c,rfl,-,-⟩:=h.shape
 obtain⟨W1,hW1⟩:=zn ((w.alloc (.cells (muxA (.slice Ad cs.length c) dd) 72)).alloc (.cells #[.slice none 0 0,.int .u32 0,.bool false] 72))
 have E1:Ext w W1:=by rw[hW1];exact((Ext.refl _).alloc _).alloc _
 have B1:=zh (show Blk W1 w.heap.size 72 (muxA (.slice Ad cs.length c) dd) by rw[hW1];exact(Blk.new w _ _).alloc _)
 have B2:=zh (show Blk W1 (w.heap.size+1) 72 #[.slice none 0 0,.int .u32 0,.bool false] by rw[hW1];exact Blk.at_ _ _ (by simp))
 have hw1:w.heap.size+1<W1.heap.size:=B2.out.lt
 have HW1:=zh hW1
 have H1:=zh (ZqX (B:=fun _=>False) (h.ext E1))
 have k0:=B1.out.cell 0
 simp only[List.getElem?_toArray,List.getElem?_cons_zero] at k0
 obtain⟨L,hL⟩:=zm (cs.length)
 have HC:=zh (Zl7 (A:=fun _=>False) (.slice Ad cs.length c) cs W1 H1.out (by omega))
 rw[hL] at HC B1 k0 HW1⊢
 unfold Zmx
 rw[hL]
 clear h hW1 hL
 go_enter Tryz.func145,Tryz.ntmps145
 go_upto_region 1 with fail
 rw[←HW1.out]
 clear HW1
 go_wp2_with fail
 refine(HC.out).mono ?_
 rintro e w2 ⟨A2,c2,rfl,O2,E2⟩
 have B1:=B1.out.ext E2
 have k0:=B1.cell 0
 have f0:=B1.frozen 0
 simp only[List.getElem?_toArray,List.getElem?_cons_zero] at k0
 have B3:=zh (show Blk (w2.setCell ⟨w.heap.size,0,none⟩ (.slice A2 L c2)) w.heap.size 72 (muxA (.slice A2 L c2) dd) by simpa using B1.set_ 0 (.slice A2 L c2))
 have B2:=zh ((B2.out.ext E2).far (p:=⟨w.heap.size,0,none⟩) (by show w.heap.size+1≠w.heap.size;omega) (.slice A2 L c2))
 have hw2:=(E1.trans E2).size
 have M3:Mod (fun k=>k=w.heap.size) w2 (w2.setCell ⟨w.heap.size,0,none⟩ (.slice A2 L c2)):=(Mod.refl _ _).set1 _
 have O3:=zh (O2.mod M3 (fun k hk he=>by have:=(O2.row k hk).1;omega) (fun k _ hk=>hk.1.elim))
 have E3:=zh (Mod.toExt (E1.trans E2) M3 (fun k hk he=>by omega))
 clear B1 O2 M3 E2 H1 HC
 go_wp2_with(first|(refine wpList_load_row rfl 72 _ rfl _ rfl 72 _ _ _ B3.out Tryz.underlying72 rfl hiM ?_)|(refine wpList_store_M rfl 72 _ _ rfl (w.heap.size+1) _ rfl rfl 72 _ B2.out hiM rfl (by simp[Value.oneCell']) ?_;intro w4 P4 M4))
 refine bodyPost_ret_by (results_cell_row Tryz.results145 _ _ (w.heap.size+1) 72 _ _ _ rfl P4 Tryz.underlying72 rfl hiM) rfl ?_
 refine⟨_,_,rfl,((O3.out.mod M4 (fun k hk he=>by have:=(O3.out.row k hk).1;have:=B2.out.lt;omega) (fun k _ hk=>hk.1.elim)).lower (by omega)).mono (fun _ _ h=>h.1),Mod.toExt E3.out M4 (fun k hk he=>by omega)⟩
theorem Zmy {cs:List Ch}{m:Nat}{c:Ch}(h:cs[m]?=some c)(hu:∀j d,j<m→cs[j]?=some d→d.lo≠c.lo):Zl8 cs c.lo=m:=by
 refine ZaZ h (fun q hq=>?_) (by simp)
 obtain⟨j,hj,rfl⟩:=List.mem_take_iff_getElem.1 hq
 have:=hu j (cs[j]'(by omega)) (by omega) (List.getElem?_eq_getElem (by omega))
 simpa using this
theorem Zpd {A:Nat→Prop}(v:Value)(dd:Bool)(cs:List Ch)(x:Int)(m:Nat)(c:Ch)(w:World)(h:RdY ChR A w v cs)(hf:Zl8 cs x=m)(hm:cs[m]?=some c):
  Calls Tryz.prog 277 #[.agg (muxA v dd),.int .u32 x] w fun e w'=>e= .returned (.tuple #[.agg (chL c).toArray,.bool true])∧Ext w w':=by
 have hiC:=zi Tryz.prog 156 12
 have hiL:∀c,(Tryz.prog.info? 156).map (·.size)=some (chL c).length:=fun _=>hiC
 have hiM:=zi Tryz.prog 72 3
 obtain⟨Ad,cc,rfl,-,-⟩:=h.shape
 have hlt:=(List.getElem?_eq_some_iff.1 hm).1
 obtain⟨W1,hW1⟩:=zn ((w.alloc (.cells (muxA (.slice Ad cs.length cc) dd) 72)).alloc (.cells ch0 156))
 have E1:Ext w W1:=by rw[hW1];exact((Ext.refl _).alloc _).alloc _
 have B1:=zh (show Blk W1 w.heap.size 72 (muxA (.slice Ad cs.length cc) dd) by rw[hW1];exact(Blk.new w _ _).alloc _)
 have B2:=zh (show Blk W1 (w.heap.size+1) 156 ch0 by rw[hW1];exact Blk.at_ _ _ (by simp))
 have HW1:=zh hW1
 have HF:=zh (fun w' (E:Ext w w')=>Zfe (A:=A) (.slice Ad cs.length cc) dd cs x w' (h.ext E))
 have H:=zh h
 have HM:=zh hm
 rw[hf] at HF
 obtain⟨L,hL⟩:=zm (cs.length)
 have HL:=zh hL
 rw[hL] at HF B1 HW1 H hlt⊢
 have hmi:¬(m:Int)<0:=by omega
 have hml:(m:Int)<(L:Int):=by omega
 clear h hW1 hL hf hm
 go_enter Tryz.func277,Tryz.ntmps277
 go_upto_region 1 with fail
 rw[←HW1.out]
 clear HW1
 go_wp2_with(first|(refine wpList_load_row rfl 72 _ rfl _ rfl 72 _ _ _ B1.out Tryz.underlying72 rfl hiM ?_)|fail)
 refine(HF.out _ E1).mono ?_
 rintro e w2 ⟨rfl,E2⟩
 have B1:=B1.out.ext E2
 have k0:=B1.cell 0
 simp only[List.getElem?_toArray,List.getElem?_cons_zero] at k0
 have B2:=zh (B2.out.ext E2)
 have E02:=E1.trans E2
 obtain⟨b,off,c2,d,cl,hv,hd,hrel2,hlen,hcell⟩:=(show RdY ChR A w2 (.slice Ad L cc) cs from H.out.ext E02).cells (j:=m) (by rw[HL.out];exact hlt)
 simp only[Value.slice.injEq] at hv
 obtain⟨rfl,-,rfl⟩:=hv
 obtain rfl:c=d:=Option.some.inj (HM.out.symm.trans hd.out)
 obtain rfl:cl=chL c:=hrel2.out
 have HCELL:=zh (show w2.rangeAt b (off+m*12) (chL c) from hcell)
 clear B1 HF E1 E2 hlen hcell hd hrel2
 go_wp2_with(first
  |(refine wpList_load_mid rfl 156 _ rfl b (off+m*12) rfl (chL c) _ HCELL.out Tryz.underlying156 rfl (hiL c) ?_)
  |(refine wpList_store_M rfl 156 _ _ rfl (w.heap.size+1) _ rfl rfl 156 _ B2.out hiC rfl (by simp[Value.oneCell']) ?_;intro w4 P4 M4))
 refine bodyPost_ret_by (Kb.Zab Tryz.results277 _ _ (w.heap.size+1) 156 _ _ _ rfl _ rfl P4 Tryz.underlying156 rfl hiC) rfl ?_
 exact⟨rfl,Mod.toExt E02 M4 (fun k hk he=>by omega)⟩
theorem Zke (cur L:List Value)(a b N:Nat)(hL:L.length=b)(h:a+b≤N)(hN:N≤cur.length):((cur.take a++L)++cur.drop (a+b)).take N=(cur.take N).take a++ (L++ (cur.take N).drop (a+b)):=by
 have h1:(cur.take a).length=a:=by simp;omega
 rw[List.take_append,List.take_append,List.length_append,h1,hL,List.take_take,List.take_take,List.drop_take,Nat.min_eq_right (by omega:a≤N),Nat.min_eq_left (by omega:a≤N),List.take_of_length_le (l:=L) (by omega),List.append_assoc]
theorem Zh2 {D:Type}{e:Rep D}{T:TypeId}{base G n c j:Nat}{w:World}{l:List D}{cs:List Value}{d':D}(h:OwnS e T base (fun _=>False) w (.slice (some ⟨G,0,none⟩) n c) l)(hj:j<n)(hr:e.rel (fun _=>False) w cs d'):
  OwnS e T base (fun _=>False) (w.setCells G (j*e.size) cs) (.slice (some ⟨G,0,none⟩) n c) (l.set j d'):=by
 obtain⟨us,ho,he⟩:=h
 obtain rfl:=Zfa ho
 have hpl:cs.length=e.size:=e.len hr
 obtain⟨hul,⟨hv,_⟩|⟨g',cap,cur,hv,hb0,hb,hcap,hmax,hcs,htk⟩⟩:=ho
 ·cases hv
 cases hv
 have hul:us.length=l.length*e.size:=hul
 have hcs:cur.size=c*e.size:=hcs
 have htk:List.take (l.length*e.size) cur.toList=us:=htk
 have hb:Blk w G T cur:=hb
 have hje:(j+1)*e.size≤l.length*e.size:=Nat.mul_le_mul_right _ hj
 have hle:l.length*e.size≤c*e.size:=Nat.mul_le_mul_right _ hcap
 rw[Nat.add_mul,Nat.one_mul] at hje
 have hB:=Blk.setCells cs (j*e.size) w cur hb (by rw[hpl,hcs];omega)
 have htl:(cur.toList.take (j*e.size)).length=j*e.size:=by rw[List.length_take];have:cur.toList.length=cur.size:=rfl;omega
 have hset:l.set j d'=l.take j++ ([d']++l.drop (j+1)):=by rw[List.set_eq_take_append_cons_drop,if_pos hj];rfl
 refine⟨us.take (j*e.size)++ (cs++us.drop ((j+1)*e.size)),⟨?_,.inr ⟨G,c,_,by rw[List.length_set],hb0,hB,by rw[List.length_set];exact hcap,hmax,?_,?_⟩⟩,?_⟩
 ·rw[List.length_set,List.length_append,List.length_append,List.length_take,List.length_drop,hpl,hul,Nat.add_mul,Nat.one_mul]
  omega
 ·rw[List.size_toArray,List.length_append,List.length_append,htl,hpl,List.length_drop,Array.length_toList,hcs]
  omega
 ·rw[List.length_set]
  show((cur.toList.take (j*e.size)++cs)++cur.toList.drop (j*e.size+cs.length)).take (l.length*e.size)=_
  rw[←htk,hpl,Zke cur.toList cs (j*e.size) e.size (l.length*e.size) hpl (by omega) (by have:cur.toList.length=cur.size:=rfl;omega),Nat.add_mul,Nat.one_mul]
 ·rw[hset]
  have e1:=he.take j (by omega)
  have e2:=he.drop (j+1)
  exact RdE.keep (RdE.append (RdE.keep e1 fun k _ hk=>⟨hk.1,rfl⟩) (RdE.append (RdE.single hr) (RdE.keep e2 fun k _ hk=>⟨hk.1,rfl⟩))) fun k _ hk=>hk.elim
def Zpe (cs:List Ch)(m:Nat)(c:Ch)(dd:Bool)(w:World)(e:Ending)(w':World):Prop:=
 ∃Ad cc,e= .returned (.agg (muxA (.slice Ad cs.length cc) dd))∧OwnS ChR 156 w.heap.size (fun _=>False) w' (.slice Ad cs.length cc) (cs.set m c)∧Ext w w'
theorem Zpf {A:Nat→Prop}(v:Value)(dd:Bool)(cs:List Ch)(m:Nat)(c:Ch)(w:World)(h:RdY ChR A w v cs)(hn:cs.length≤1000)(hf:Zl8 cs c.lo=m)(hm:m<cs.length):
  Calls Tryz.prog 275 #[.agg (muxA v dd),.agg (chL c).toArray] w (Zpe cs m c dd w):=by
 have hiC:=zi Tryz.prog 156 12
 have hiM:=zi Tryz.prog 72 3
 obtain⟨Ad,cc,rfl,-,-⟩:=h.shape
 obtain⟨W1,hW1⟩:=zn (((w.alloc (.cells (muxA (.slice Ad cs.length cc) dd) 72)).alloc (.cells (chL c).toArray 156)).alloc (.cells #[.slice none 0 0,.int .u32 0,.bool false] 72))
 have E1:Ext w W1:=by rw[hW1];exact(((Ext.refl _).alloc _).alloc _).alloc _
 have B1:=zh (show Blk W1 w.heap.size 72 (muxA (.slice Ad cs.length cc) dd) by rw[hW1];exact((Blk.new w _ _).alloc _).alloc _)
 have B2:=zh (show Blk W1 (w.heap.size+1) 156 (chL c).toArray by rw[hW1];exact(Blk.at_ _ _ (by simp)).alloc _)
 have B3:=zh (show Blk W1 (w.heap.size+1+1) 72 #[.slice none 0 0,.int .u32 0,.bool false] by rw[hW1];exact Blk.at_ _ _ (by simp))
 have hw1:w.heap.size+1+1<W1.heap.size:=B3.out.lt
 have HW1:=zh hW1
 have HT:=zh (Zh1 (.slice Ad cs.length cc) dd cs W1 (h.ext E1) hn)
 have HF:=zh (fun v' w' (h':RdY ChR (fun _=>True) w' v' cs)=>Zfe v' dd cs c.lo w' h')
 rw[hf] at HF
 unfold Zmx at HT
 unfold Zpe
 obtain⟨L,hL⟩:=zm (cs.length)
 have HL:=zh hL
 rw[hL] at HT B1 HW1 hm⊢
 have hmi:¬(m:Int)<0:=by omega
 have hmg:(0:Int)≤(m:Int):=by omega
 have hml:(m:Int)<(L:Int):=by omega
 clear h hW1 hL hf hn
 go_enter Tryz.func275,Tryz.ntmps275
 go_upto_region 1 with fail
 rw[←HW1.out]
 clear HW1
 go_wp2_with(first|(refine wpList_load_row rfl 72 _ rfl _ rfl 72 _ _ _ B1.out Tryz.underlying72 rfl hiM ?_)|fail)
 refine(HT.out).mono ?_
 rintro e w2 ⟨A2,c2,rfl,O2,E2⟩
 have B1:=zh (B1.out.ext E2)
 have B2:=zh (B2.out.ext E2)
 have B3:=zh (B3.out.ext E2)
 have E02:=E1.trans E2
 have O2:=zh O2
 clear E1 E2 HT
 go_upto_region 2 with(refine wpList_store_M rfl 72 _ _ rfl w.heap.size _ rfl rfl 72 _ B1.out hiM rfl (by simp[Value.oneCell']) ?_;intro w3 P3 M3)
 have O3:=zh (O2.out.mod M3 (fun k hk he=>by have:=(O2.out.row k hk).1;omega) (fun k _ hk=>hk.elim))
 have B2:=zh (B2.out.mod M3 (by omega))
 have B3:=zh (B3.out.mod M3 (by omega))
 have E03:=Mod.toExt E02 M3 (fun k hk he=>by omega)
 have P3:=zh P3
 have kc:=B2.out.cell 0
 simp only[List.getElem?_toArray,List.getElem?_cons_zero] at kc
 clear M3 E02 B1 O2
 go_wp2_with(first|(refine wpList_load_row rfl 72 _ rfl _ rfl 72 _ _ _ P3.out Tryz.underlying72 rfl hiM ?_)|fail)
 refine(HF.out _ _ (RdS.y O3.out.rdT)).mono ?_
 rintro e w4 ⟨rfl,E4⟩
 have P4:=zh (P3.out.ext E4)
 have B2:=zh (B2.out.ext E4)
 have B3:=zh (B3.out.ext E4)
 have E04:=E03.trans E4
 have O4:=zh (O3.out.ext E4)
 have k0:=P4.out.cell 0
 simp only[List.getElem?_toArray,List.getElem?_cons_zero] at k0
 obtain⟨g4,rfl,hg4,hfz⟩:=O4.out.addr (by omega)
 obtain⟨b,off,c9,d,cl,hv,hd,hrel2,hlen,hcell⟩:=(O4.out.rdT.y).cells (j:=m) (by rw[HL.out];exact hm)
 simp only[Value.slice.injEq,Option.some.injEq,Addr.mk.injEq,and_true] at hv
 obtain⟨⟨rfl,rfl⟩,-,rfl⟩:=hv
 have hcell:∀i u,cl[i]?=some u→w4.cell? ⟨g4,m*12+i,none⟩=some u:=fun i u hu=>by have h9:=hcell i u hu;rw[Nat.zero_add] at h9;exact h9
 have hlen:cl.length=12:=hlen
 have hth:w4.there g4 (m*12) 12:=fun t ht=>⟨by rw[hcell t _ (List.getElem?_eq_getElem (by omega))];rfl,hfz _⟩
 have O5:=zh (Zh2 (cs:=chL c) (d':=c) O4.out hm rfl)
 have M5:=zh (Mod.setCells (chL c) (m*12) w4 w4 (Mod.refl (fun k=>k=g4) w4))
 have hb4:g4<w4.heap.size:=(O4.out.row g4 rfl).2
 clear P3 kc HF E03 E4 hcell hd hrel2 hlen hfz O3 O4
 go_upto_region 5 with(first
  |(refine wpList_load_row rfl 156 _ rfl _ rfl 156 _ _ _ B2.out Tryz.underlying156 rfl hiC ?_)
  |(refine wpList_store_mid rfl 156 _ _ rfl g4 (m*12) (chL c).toArray rfl rfl (by first|exact hth|(rw[show(chL c).toArray.size=12 from rfl];exact hth)) (by exact hiC) (by simp[Value.oneCell']) ?_))
 have hne4:∀o,o<W1.heap.size→¬o=g4:=fun o ho he=>by omega
 have P5:=zh (P4.out.mod M5.out (hne4 _ (by omega)))
 have B5:=zh (B3.out.mod M5.out (hne4 _ (by omega)))
 have E5:=zh (Mod.toExt E04 M5.out (fun k hk he=>by omega))
 obtain⟨W5,hW5⟩:=zn (w4.setCells g4 (m*12) (chL c))
 have O5:=zh (show OwnS ChR 156 W1.heap.size (fun _=>False) W5 (.slice (some ⟨g4,0,none⟩) L c2) (cs.set m c) by rw[hW5];exact O5.out)
 rw[←hW5] at P5 B5 E5
 first|rw[←hW5]|(show Code.wp _ _ _ _ (w4.setCells g4 (m*12) (chL c));rw[←hW5])
 clear hW5 M5 hth P4 B2 B3
 go_wp2_with(first|(refine wpList_load_row rfl 72 _ rfl _ rfl 72 _ _ _ P5.out Tryz.underlying72 rfl hiM ?_)|(refine wpList_store_M rfl 72 _ _ rfl (w.heap.size+1+1) _ rfl rfl 72 _ B5.out hiM rfl (by simp[Value.oneCell']) ?_;intro w6 P6 M6))
 refine bodyPost_ret_by (results_cell_row Tryz.results275 _ _ (w.heap.size+1+1) 72 _ _ _ rfl P6 Tryz.underlying72 rfl hiM) rfl ?_
 exact⟨_,_,rfl,(O5.out.mod M6 (fun k hk he=>by have:=(O5.out.row k hk).1;omega) (fun k _ hk=>hk.elim)).lower (by omega),Mod.toExt E5.out M6 (fun k hk he=>by omega)⟩
end Go.Proofs.YtmmhcllibpmfnaaGreatDoor
namespace Go.Kb
open Go
section
variable {P:Program} {ops:Array Oper} {Q:Exit→Act→World→Prop} {md:Region.Mode} {T:World→Prop} {k:Nat}
def ZaG (P:Program)(md:Region.Mode)(ops:Array Oper)(Q:Exit→Act→World→Prop)(k:Nat)(T:World→Prop):Nat→Array Bool→Act→World→Prop
 |0,listed,a,w=>Region.ready md ops listed=[]∧Q .normal a w
 |fuel+1,listed,a,w=>
  (Region.ready md ops listed=[]→Q .normal a w)∧
  ∀i∈Region.ready md ops listed,wpOp P ops Q i (fun a' w'=>(i≠k→T w')∧ZaG P md ops Q k T fuel (listed.setIfInBounds i true) a' w') a w
theorem Zed:∀ (fuel:Nat) (listed:Array Bool) (a:Act) (w:World),ZaG P md ops Q k T fuel listed a w→wpAny P md ops Q fuel listed a w
 |0,_,_,_,h=>h
 |fuel+1,_,_,_,h=>⟨h.1,fun i hi=>wpOp_mono (fun _ _ h'=>Zed fuel _ _ _ h'.2) (h.2 i hi)⟩
def ZeU (md:Region.Mode)(ops:Array Oper)(k i:Nat):Bool:=
 match ops[k]? with
 |some o=>o.after.any fun e=>Region.binds md e&&e.on==i
 |none=>false
theorem Zkf {i:Nat}(h:ZeU md ops k i=true):∃o,ops[k]?=some o∧∃e∈o.after,Region.binds md e=true∧e.on=i:=by
 unfold ZeU at h
 split at h
 ·rename_i o ho
  obtain⟨n,hn,h2⟩:=Array.any_eq_true.1 h
  simp only[Bool.and_eq_true,beq_iff_eq] at h2
  exact⟨o,ho,o.after[n],Array.getElem_mem hn,h2⟩
 ·cases h
theorem Zi0 {i:Nat}{oi:Oper}{v:Value}(hi:ops[i]?=some oi)(hsel:∀ (j:Nat) (o:Oper) cs b,ops[j]?=some o→o.op≠ .select cs b)
  (hQ:∀c a w,Q (.panic c) (a.put oi.dst v) w→Q (.panic c) a w) (hk:ZeU md ops k i=true):
  ∀ (fuel:Nat) (listed:Array Bool) (a:Act) (w:World),
   (∀j oj,ops[j]?=some oj→j≠i→listed.getD j true=false→(∀e∈oj.after,Region.binds md e=true→e.on≠i)→oi.apart ops oj=true)→
   i∈Region.ready md ops listed→YieldsIf P ops T oi v a→T w→i≠k→
   ZaG P md ops Q k T fuel (listed.setIfInBounds i true) (a.put oi.dst v) w→ZaG P md ops Q k T (fuel+1) listed a w:=by
 intro fuel
 induction fuel with
 |zero=>
  intro listed a w _ hr hy hS hik H
  refine⟨fun h=>(by rw[h] at hr;cases hr),fun j hj=>?_⟩
  by_cases hji:j=i
  ·subst hji;exact hy.wpOp hi hS ⟨fun _=>hS,H⟩
  ·have:=ready_mono hj hji
   rw[H.1] at this
   cases this
 |succ fuel ih=>
  intro listed a w hfree hr hy hS hik H
  refine⟨fun h=>(by rw[h] at hr;cases hr),fun j hj=>?_⟩
  by_cases hji:j=i
  ·subst hji;exact hy.wpOp hi hS ⟨fun _=>hS,H⟩
  ·have h1:=H.2 j (ready_mono hj hji)
   obtain⟨hjun,oj,hoj,hall⟩:=mem_ready.1 hj
   have hnot:∀e∈oj.after,Region.binds md e=true→e.on≠i:=fun e he hb heq=>by
    have h1:=hall e he hb
    have h0:=(mem_ready.1 hr).1
    rw[heq] at h1
    rcases Nat.lt_or_ge i listed.size with h'|h'
    ·simp[h'] at h0 h1;rw[h0] at h1;cases h1
    ·simp[Array.getElem?_eq_none h'] at h1
   have hjk:j≠k:=by
    rintro rfl
    obtain⟨o,ho,e,he,hb,heq⟩:=Zkf hk
    rw[hoj] at ho
    cases ho
    exact hnot e he hb heq
   have h2:=wpOp_putIf hoj (hfree j oj hoj hji hjun hnot) (fun cs b=>hsel i oi cs b hi) (fun cs b=>hsel j oj cs b hoj) hQ hy h1
   have hfree':∀m om,ops[m]?=some om→m≠i→(listed.setIfInBounds j true).getD m true=false→
     (∀e∈om.after,Region.binds md e=true→e.on≠i)→oi.apart ops om=true:=fun m om hm hmi hun hno=>by
    refine hfree m om hm hmi ?_ hno
    by_cases hjm:j=m
    ·subst hjm;exact hjun
    ·rw[getD_set_ne true hjm] at hun;exact hun
   refine wpOp_mono (fun a' w' h3=>⟨h3.2.1,ih (listed.setIfInBounds j true) a' w' hfree' (ready_mono hr (Ne.symm hji)) h3.1 (h3.2.1 hjk) hik ?_⟩) h2
   rw[Array.setIfInBounds_comm _ _ hji]
   exact h3.2.2
theorem ZaJ {i:Nat}{oi:Oper}{v:Value}{fuel:Nat}{listed:Array Bool}{a:Act}{w:World}(hi:ops[i]?=some oi)
  (hs:Region.noSelect ops=true) (hf:Region.free md ops listed i=true) (hr:(Region.ready md ops listed).contains i=true) (hk:(ZeU md ops k i&&i !=k)=true)
  (hQ:∀c a w,Q (.panic c) (a.put oi.dst v) w→Q (.panic c) a w) (hy:YieldsIf P ops T oi v a) (hS:T w)
  (h:ZaG P md ops Q k T fuel (listed.setIfInBounds i true) (a.put oi.dst v) w):ZaG P md ops Q k T (fuel+1) listed a w:=by
 simp only[Bool.and_eq_true,bne_iff_ne] at hk
 exact Zi0 hi (Region.noSelect_spec hs) hQ hk.1 fuel listed a w (Region.free_spec hi hf) (by simpa using hr) hy hS hk.2 h
def Zaj (P:Program)(md:Region.Mode)(ops:Array Oper)(Q:Exit→Act→World→Prop)(k:Nat)(T:World→Prop)(fuel:Nat)(listed:Array Bool)(a:Act)(w:World)(rs:List Nat):Prop:=
 ∀i∈rs,wpOp P ops Q i (fun a' w'=>(i≠k→T w')∧ZaG P md ops Q k T fuel (listed.setIfInBounds i true) a' w') a w
theorem Zaj.nil {fuel:Nat}{listed:Array Bool}{a:Act}{w:World}:Zaj P md ops Q k T fuel listed a w []:=fun _ h=>by cases h
theorem Zaj.cons {fuel:Nat}{listed:Array Bool}{a:Act}{w:World}{i:Nat}{o:Oper}{rs:List Nat}(ho:ops[i]?=some o)
  (h:∀K':Act→World→Prop,Shut (∀a w,T w→(T w→ZaG P md ops Q k T fuel (listed.setIfInBounds i true) a w)→K' a w)→if Region.wanted o (yielded ops a.tmps)=true then Oper.wp P o a w K' Q else K' (a.put o.dst undef) w)
  (hs:Zaj P md ops Q k T fuel listed a w rs):Zaj P md ops Q k T fuel listed a w (i::rs):=fun j hj=>by
 rcases List.mem_cons.1 hj with rfl|hj
 ·exact wpOp_step ho (fun K' hK=>h K' (fun a w hS hW=>hK a w ⟨fun _=>hS,hW hS⟩))
 ·exact hs j hj
theorem Zaj.last {fuel:Nat}{listed:Array Bool}{a:Act}{w:World}{o:Oper}{rs:List Nat}(ho:ops[k]?=some o)
  (h:∀K':Act→World→Prop,Shut (∀a w,ZaG P md ops Q k T fuel (listed.setIfInBounds k true) a w→K' a w)→if Region.wanted o (yielded ops a.tmps)=true then Oper.wp P o a w K' Q else K' (a.put o.dst undef) w)
  (hs:Zaj P md ops Q k T fuel listed a w rs):Zaj P md ops Q k T fuel listed a w (k::rs):=fun j hj=>by
 rcases List.mem_cons.1 hj with rfl|hj
 ·exact wpOp_step ho (fun K' hK=>h K' (fun a w hW=>hK a w ⟨fun hn=>(hn rfl).elim,hW⟩))
 ·exact hs j hj
theorem Zam {rs:List Nat}{fuel:Nat}{listed:Array Bool}{a:Act}{w:World}(hr:Region.ready md ops listed=rs)(hne:rs≠[])
  (h:Zaj P md ops Q k T fuel listed a w rs):ZaG P md ops Q k T (fuel+1) listed a w:=
 ⟨fun h0=>absurd (hr ▸ h0) hne,hr ▸ h⟩
theorem Zaw {listed:Array Bool}{a:Act}{w:World}(hr:Region.ready md ops listed=[])(h:Q .normal a w):
  ∀fuel,ZaG P md ops Q k T fuel listed a w
 |0=>⟨hr,h⟩
 |_+1=>⟨fun _=>h,by rw[hr];simp⟩
theorem Zao {id:Nat}{a:Act}{w:World}(k:Nat)(T:World→Prop)(hm:P.follows .mixedOrders=true)(hS:T w.drew)
  (h:T w.drew→ZaG P .any ops Q k T ops.size (Array.replicate ops.size false) a w.drew):(Code.region id ops true).wp P Q a w:=
 wp_region_any hm (Zed _ _ _ _ (h hS))
section
variable {a':Act}
theorem zk (i:Nat){oi:Oper}{v:Value}{fuel:Nat}{listed:Array Bool}{a:Act}{w:World}(h:ZaG P md ops Q k T fuel (listed.setIfInBounds i true) a' w)(hi:ops[i]?=some oi:=by exact rfl)(hy:YieldsIf P ops T oi v a:=by exact Or.inl ⟨by rfl,by intro w' hSw;go_simp;try with_reducible rfl⟩)
  (ha:a.put oi.dst v=a':=by((try simp only[Go.Kb.zP]);first|done|rfl)) (hs:Region.noSelect ops=true:=by kernel_rfl) (hf:Region.free md ops listed i=true:=by kernel_rfl) (hr:(Region.ready md ops listed).contains i=true:=by kernel_rfl) (hk:(ZeU md ops k i&&i !=k)=true:=by kernel_rfl)
  (hQ:∀c a w,Q (.panic c) (a.put oi.dst v) w→Q (.panic c) a w:=by exact fun _ _ _ h=>h) (hS:T w:=by assumption):ZaG P md ops Q k T (fuel+1) listed a w:=
 ZaJ hi hs hf hr hk hQ hy hS (ha ▸ h)
theorem zl (i:Nat){oi:Oper}{v:Value}{fuel:Nat}{listed:Array Bool}{a:Act}{w:World}{F:World→Prop}(q:∀w',T w'→F w')(h:ZaG P md ops Q k T fuel (listed.setIfInBounds i true) a' w)(hi:ops[i]?=some oi:=by exact rfl)(hy:(∀w',T w'→F w')→YieldsIf P ops T oi v a:=by exact fun k=>Or.inl ⟨by rfl,by intro w' hSw;have kc:=k w' hSw;clear k;go_simp;try with_reducible rfl⟩)
  (ha:a.put oi.dst v=a':=by((try simp only[Go.Kb.zP]);first|done|rfl)) (hs:Region.noSelect ops=true:=by kernel_rfl) (hf:Region.free md ops listed i=true:=by kernel_rfl) (hr:(Region.ready md ops listed).contains i=true:=by kernel_rfl) (hk:(ZeU md ops k i&&i !=k)=true:=by kernel_rfl)
  (hQ:∀c a w,Q (.panic c) (a.put oi.dst v) w→Q (.panic c) a w:=by exact fun _ _ _ h=>h) (hS:T w:=by assumption):ZaG P md ops Q k T (fuel+1) listed a w:=
 ZaJ hi hs hf hr hk hQ (hy q) hS (ha ▸ h)
theorem zy (i:Nat){oi:Oper}{fuel:Nat}{listed:Array Bool}{a:Act}{w:World}(h:∀K':Act→World→Prop,Shut (∀a w,T w→(T w→ZaG P md ops Q k T fuel (listed.setIfInBounds i true) a w)→K' a w)→if Region.wanted oi (yielded ops a.tmps)=true then Oper.wp P oi a w K' Q else K' (a.put oi.dst undef) w)(hi:ops[i]?=some oi:=by exact rfl)(hr:Region.ready md ops listed=[i]:=by kernel_rfl):ZaG P md ops Q k T (fuel+1) listed a w:=
 Zam hr (by simp) (Zaj.cons hi h Zaj.nil)
end
end
end Go.Kb
namespace Go.Proofs.YtmmhcllibpmfnaaGreatDoor
open Go.RowKit Go.Kb
structure Ev where
 (k ch co:Int)
 nm:ByteArray
 wa:Bool
 da:List Int
abbrev evA (x:Ev)(v:Value):Array Value:=#[.int .i64 x.k,.int .u32 x.ch,.int .u32 x.co,.string x.nm,.bool x.wa,v]
def EvR:Rep Ev where
 size:=6
 pos:=by decide
 rel:=fun A w cs x=>∃v,cs=(evA x v).toList∧RdS Ub8 A w v x.da
 len:=fun⟨v,h,_⟩=>by rw[h];rfl
 one:=fun⟨v,h,h2⟩ u hu=>by
  obtain⟨Ad,c,rfl,_⟩:=h2.shape
  rw[h] at hu
  simp at hu
  rcases hu with rfl|rfl|rfl|rfl|rfl|rfl<;>rfl
 keep:=fun⟨v,h,h2⟩ hk=>⟨v,h,h2.keep hk⟩
theorem Zh3:(Tryz.prog.info? 62).map (fun i=>(i.zero,i.size,i.bytes))=some (some (.agg #[.int .i64 0,.int .u32 0,.int .u32 0,.int .u32 0,.int .u32 0,.int .u32 0,.string ⟨#[]⟩,.string ⟨#[]⟩,.bool false,.slice none 0 0]),MgR.size,96):=by kernel_rfl
theorem Zpg:(Tryz.prog.info? 207).map (fun i=>(i.zero,i.size,i.bytes))=some (some (.agg #[.int .i64 0,.int .u32 0,.int .u32 0,.string ⟨#[]⟩,.bool false,.slice none 0 0]),EvR.size,64):=by kernel_rfl
abbrev tkA (cv lv dv ov vv ev:Value):Array Value:=#[cv,lv,dv,ov,vv,ev]
def Zon (g:Nat)(A:Nat→Prop)(m:Mg)(cv lv dv vv ev:Value)(w:World)(e:Ending)(w':World):Prop:=
 e= .returned (.tuple #[])∧∃A' c',Blk w' g 267 (tkA cv lv dv (.slice A' 1 c') vv ev)∧OwnS MgR 62 w.heap.size A w' (.slice A' 1 c') [m]∧Mod (fun k=>k=g) w w'
theorem ZqY (g:Nat)(cv lv dv vv ev:Value)(m:Mg)(v:Value)(A:Nat→Prop)(w:World)(h:Blk w g 267 (tkA cv lv dv (.slice none 0 0) vv ev))(hv:RdS Ub8 A w v m.da)(hA:∀k,A k→k≠g∧k<w.heap.size):
  Calls Tryz.prog 263 #[.pointer (some ⟨g,0,none⟩),.agg (mgA m v)] w (Zon g A m cv lv dv vv ev w):=by
 have hiM:=zi Tryz.prog 62 10
 obtain⟨Av,c,rfl,-,-⟩:=hv.shape
 obtain⟨W1,hW1⟩:=zn (w.alloc (.cells (mgA m (.slice Av m.da.length c)) 62))
 have E1:Ext w W1:=by rw[hW1];exact(Ext.refl _).alloc _
 have B1:=zh (show Blk W1 w.heap.size 62 (mgA m (.slice Av m.da.length c)) by rw[hW1];exact Blk.new w _ _)
 have HW1:=zh hW1
 have HB:=zh (h.ext E1)
 have HV:=zh (hv.ext E1)
 have hg:=h.lt
 have hw1:w.heap.size<W1.heap.size:=B1.out.lt
 obtain⟨n1,hn1⟩:=zm (w.heap.size)
 clear h hv hW1
 go_enter Tryz.func263,Tryz.ntmps263
 go_upto_region 1 with fail
 rw[←HW1.out]
 clear HW1
 generalize Value.agg (mgA m (.slice Av m.da.length c))=z1
 unfold Zon
 rw[hn1] at B1 hg hw1⊢
 have HN1:=zh hn1
 clear hn1
 refine Zao 10 (fun w'=>Ext W1 w') (by kernel_rfl) (Ext.drew (Ext.refl _)) (fun hHeld=>?_)
 obtain⟨D,hD⟩:=zn (W1.drew)
 have ED:Ext W1 D:=by rw[hD];exact(Ext.refl _).drew
 rw[←hD] at hHeld⊢
 clear hD
 have k1:=HB.out.cell 3
 simp only[List.getElem?_toArray,List.getElem?_cons_succ,List.getElem?_cons_zero] at k1
 refine zk 0 ?_
 refine zk 1 ?_
 refine zk 2 ?_
 refine zk 3 ?_
 (refine zl 4 (fun _ h=>Zaa h k1) ?_)
 (refine ZaJ (i:=5) (v:=.agg (mgA m (.slice Av m.da.length c))) rfl (by kernel_rfl) (by kernel_rfl) (by kernel_rfl) (by kernel_rfl) (fun _ _ _ h=>h) (Zac (by rfl) 62 _ rfl _ rfl 62 (mgA m (.slice Av m.da.length c)) _ _ (fun w' hSw=>(B1.out.ext hSw)) Tryz.underlying62 rfl hiM) (by assumption) ?_;(try simp only[zP]))
 refine zy 6 fun K hK=>?_
 go_simp
 have HX:=zh (Blk.new D 62 (mgA m (.slice Av m.da.length c)))
 have EX:Ext D (D.alloc (.cells (mgA m (.slice Av m.da.length c)) 62)):=(Ext.refl _).alloc _
 refine zo hK (ED.trans EX) fun hHeld=>?_
 clear hK K
 have hds:W1.heap.size≤D.heap.size:=ED.size
 have HB2:=zh ((HB.out.ext ED).ext EX)
 have HV2:=zh ((HV.out.ext ED).ext EX)
 have EE:=ED.trans EX
 generalize D.alloc (.cells (mgA m (.slice Av m.da.length c)) 62)=u4 at*
 generalize D.heap.size=nX at*
 clear EX ED
 refine zy 7 fun K hK=>?_
 refine ZaX (e:=MgR) (base:=W1.heap.size) (B:=A) (A:=A) rfl (.tmp 8) (.tmp 10) rfl Tryz.underlying57 Zh3 rfl (OwnS.nil _ _ _ _ _) rfl (RdY.singleB (e:=MgR) (cs:=(mgA m (.slice Av m.da.length c)).toList) (d:=m) ⟨_,rfl,HV2.out⟩ HX.out) rfl (fun k _ hk=>⟨hk,fun he=>by cases he⟩) (N:=1) rfl (by unfold maxLen;omega) (by omega) EE.size ?_
 intro A9 c9 u5 o9 M9 L9
 have E9:Ext u4 u5:=Mod.toExt (Ext.refl _) M9 (fun k _ hk=>by cases hk)
 refine zo hK (EE.trans E9) fun hHeld=>?_
 clear hK K
 have HB5:=zh (HB2.out.ext E9)
 have o9:=zh o9
 have EE5:=EE.trans E9
 clear M9 L9 HX HB2 HV2 EE
 (refine zy 8 fun K hK=>?_;go_simp;refine zo hK EE5 fun hHeld=>?_;clear hK K)
 refine zk 9 ?_
 have k3:=HB5.out.cell 3
 have f3:=HB5.out.frozen 3
 simp only[List.getElem?_toArray,List.getElem?_cons_succ,List.getElem?_cons_zero] at k3
 have M6:Mod (fun k=>k=g) W1 (u5.setCell ⟨g,3,none⟩ (.slice A9 1 c9)):=(Mod.of_ext EE5).set1 _
 (refine Zam (rs:=[10]) (by kernel_rfl) (by simp) ?_;refine Zaj.last rfl (fun K hK=>?_) Zaj.nil;go_simp;refine hK.out _ _ ?_;clear hK K;(try simp only[zP]))
 refine Zaw (by kernel_rfl) ?_ _
 go_end0
 have M7:Mod (fun k=>k=g) u5 (u5.setCell ⟨g,3,none⟩ (.slice A9 1 c9)):=(Mod.refl _ _).set1 _
 refine⟨rfl,A9,c9,by simpa using HB5.out.set_ 3 (.slice A9 1 c9),?_,(Mod.of_ext E1).trans M6⟩
 exact(o9.out.mod M7 (fun k hk he=>by have:=(o9.out.row k hk).1;omega) (fun k _ hk he=>by have:=(hA k hk).1;omega)).lower (by rw[←HN1.out];exact E1.size)
def Zoo (g:Nat)(A:Nat→Prop)(m:Ev)(cv lv dv ov ev:Value)(w:World)(e:Ending)(w':World):Prop:=
 e= .returned (.tuple #[])∧∃A' c',Blk w' g 267 (tkA cv lv dv ov (.slice A' 1 c') ev)∧OwnS EvR 207 w.heap.size A w' (.slice A' 1 c') [m]∧Mod (fun k=>k=g) w w'
theorem Zop (g:Nat)(cv lv dv ov ev:Value)(m:Ev)(v:Value)(A:Nat→Prop)(w:World)(h:Blk w g 267 (tkA cv lv dv ov (.slice none 0 0) ev))(hv:RdS Ub8 A w v m.da)(hA:∀k,A k→k≠g∧k<w.heap.size):
  Calls Tryz.prog 262 #[.pointer (some ⟨g,0,none⟩),.agg (evA m v)] w (Zoo g A m cv lv dv ov ev w):=by
 have hiM:=zi Tryz.prog 207 6
 obtain⟨Av,c,rfl,-,-⟩:=hv.shape
 obtain⟨W1,hW1⟩:=zn (w.alloc (.cells (evA m (.slice Av m.da.length c)) 207))
 have E1:Ext w W1:=by rw[hW1];exact(Ext.refl _).alloc _
 have B1:=zh (show Blk W1 w.heap.size 207 (evA m (.slice Av m.da.length c)) by rw[hW1];exact Blk.new w _ _)
 have HW1:=zh hW1
 have HB:=zh (h.ext E1)
 have HV:=zh (hv.ext E1)
 have hg:=h.lt
 have hw1:w.heap.size<W1.heap.size:=B1.out.lt
 obtain⟨n1,hn1⟩:=zm (w.heap.size)
 clear h hv hW1
 go_enter Tryz.func262,Tryz.ntmps262
 go_upto_region 1 with fail
 rw[←HW1.out]
 clear HW1
 generalize Value.agg (evA m (.slice Av m.da.length c))=z1
 unfold Zoo
 rw[hn1] at B1 hg hw1⊢
 have HN1:=zh hn1
 clear hn1
 refine Zao 10 (fun w'=>Ext W1 w') (by kernel_rfl) (Ext.drew (Ext.refl _)) (fun hHeld=>?_)
 obtain⟨D,hD⟩:=zn (W1.drew)
 have ED:Ext W1 D:=by rw[hD];exact(Ext.refl _).drew
 rw[←hD] at hHeld⊢
 clear hD
 have k1:=HB.out.cell 4
 simp only[List.getElem?_toArray,List.getElem?_cons_succ,List.getElem?_cons_zero] at k1
 refine zk 0 ?_
 refine zk 1 ?_
 refine zk 2 ?_
 refine zk 3 ?_
 (refine zl 4 (fun _ h=>Zaa h k1) ?_)
 (refine ZaJ (i:=5) (v:=.agg (evA m (.slice Av m.da.length c))) rfl (by kernel_rfl) (by kernel_rfl) (by kernel_rfl) (by kernel_rfl) (fun _ _ _ h=>h) (Zac (by rfl) 207 _ rfl _ rfl 207 (evA m (.slice Av m.da.length c)) _ _ (fun w' hSw=>(B1.out.ext hSw)) Tryz.underlying207 rfl hiM) (by assumption) ?_;(try simp only[zP]))
 refine zy 6 fun K hK=>?_
 go_simp
 have HX:=zh (Blk.new D 207 (evA m (.slice Av m.da.length c)))
 have EX:Ext D (D.alloc (.cells (evA m (.slice Av m.da.length c)) 207)):=(Ext.refl _).alloc _
 refine zo hK (ED.trans EX) fun hHeld=>?_
 clear hK K
 have hds:W1.heap.size≤D.heap.size:=ED.size
 have HB2:=zh ((HB.out.ext ED).ext EX)
 have HV2:=zh ((HV.out.ext ED).ext EX)
 have EE:=ED.trans EX
 generalize D.alloc (.cells (evA m (.slice Av m.da.length c)) 207)=u4 at*
 generalize D.heap.size=nX at*
 clear EX ED
 refine zy 7 fun K hK=>?_
 refine ZaX (e:=EvR) (base:=W1.heap.size) (B:=A) (A:=A) rfl (.tmp 8) (.tmp 10) rfl Tryz.underlying201 Zpg rfl (OwnS.nil _ _ _ _ _) rfl (RdY.singleB (e:=EvR) (cs:=(evA m (.slice Av m.da.length c)).toList) (d:=m) ⟨_,rfl,HV2.out⟩ HX.out) rfl (fun k _ hk=>⟨hk,fun he=>by cases he⟩) (N:=1) rfl (by unfold maxLen;omega) (by omega) EE.size ?_
 intro A9 c9 u5 o9 M9 L9
 have E9:Ext u4 u5:=Mod.toExt (Ext.refl _) M9 (fun k _ hk=>by cases hk)
 refine zo hK (EE.trans E9) fun hHeld=>?_
 clear hK K
 have HB5:=zh (HB2.out.ext E9)
 have o9:=zh o9
 have EE5:=EE.trans E9
 clear M9 L9 HX HB2 HV2 EE
 (refine zy 8 fun K hK=>?_;go_simp;refine zo hK EE5 fun hHeld=>?_;clear hK K)
 refine zk 9 ?_
 have k3:=HB5.out.cell 4
 have f3:=HB5.out.frozen 4
 simp only[List.getElem?_toArray,List.getElem?_cons_succ,List.getElem?_cons_zero] at k3
 have M6:Mod (fun k=>k=g) W1 (u5.setCell ⟨g,4,none⟩ (.slice A9 1 c9)):=(Mod.of_ext EE5).set1 _
 (refine Zam (rs:=[10]) (by kernel_rfl) (by simp) ?_;refine Zaj.last rfl (fun K hK=>?_) Zaj.nil;go_simp;refine hK.out _ _ ?_;clear hK K;(try simp only[zP]))
 refine Zaw (by kernel_rfl) ?_ _
 go_end0
 have M7:Mod (fun k=>k=g) u5 (u5.setCell ⟨g,4,none⟩ (.slice A9 1 c9)):=(Mod.refl _ _).set1 _
 refine⟨rfl,A9,c9,by simpa using HB5.out.set_ 4 (.slice A9 1 c9),?_,(Mod.of_ext E1).trans M6⟩
 exact(o9.out.mod M7 (fun k hk he=>by have:=(o9.out.row k hk).1;omega) (fun k _ hk he=>by have:=(hA k hk).1;omega)).lower (by rw[←HN1.out];exact E1.size)
theorem ZdN {D:Type}{f:D→Bool}{l:List D}(h:∃c∈l,f c=true):∃m c,Zdq f l=(m:Nat)∧l[m]?=some c∧f c=true:=by
 unfold Zdq
 obtain⟨c,hc,hf⟩:=h
 cases hx:l.findIdx? f with
 |none=>
  have:=List.findIdx?_eq_none_iff.1 hx c hc
  rw[hf] at this
  cases this
 |some m=>
  obtain⟨hlt,h1,-⟩:=List.findIdx?_eq_some_iff_getElem.1 hx
  exact⟨m,_,rfl,List.getElem?_eq_getElem hlt,h1⟩
theorem Zph {cs:List Ch}{x:Int}(h:∃c∈cs,c.lo=x):∃m c,Zl8 cs x=(m:Nat)∧cs[m]?=some c∧c.lo=x:=by
 obtain⟨c,hc,hx⟩:=h
 obtain⟨m,d,h1,h2,h3⟩:=ZdN (f:=fun c=>c.lo==x) ⟨c,hc,by simpa using hx⟩
 exact⟨m,d,h1,h2,by simpa using h3⟩
theorem Zg6 {A:Nat→Prop}(k:Nat)(bs fs:Array Value)(f:Ch→Bool)(v:Value)(l:List Ch)(w:World)(h:RdY ChR A w v l)(hf:Zg0 k bs fs ChR f w):
  Calls Tryz.prog 264 #[v,.func (.func k) bs fs] w fun e w'=>e= .returned (.bool (l.any f))∧Ext w w':=by
 have HI:=zh (fun w' (E:Ext w w')=>Zfd k bs fs f v l w' (h.ext E) (hf.ext E))
 clear h hf
 by_cases ha:l.any f=true
 ·obtain⟨m,c,hm,-,-⟩:=ZdN (f:=f) (l:=l) (by simpa using ha)
  rw[hm] at HI
  have hge:(0:Int)≤(m:Int):=by omega
  have HA:=zh ha
  rw[HA.out]
  clear ha hm
  go_enter Tryz.func264,Tryz.ntmps264
  go_wp2_with fail
  refine(HI.out _ zX).mono ?_
  rintro e w1 ⟨rfl,E1⟩
  go_wp2
  go_ret
  exact⟨by simp,zX⟩
 ·have hn:Zdq f l= -1:=ZaD (fun p hp=>by
   have h9:l.any f=false:=by simpa using ha
   exact List.any_eq_false.1 h9 p hp|>fun h8=>by simpa using h8)
  rw[hn] at HI
  have HA:=zh (show l.any f=false by simpa using ha)
  rw[HA.out]
  clear ha hn
  go_enter Tryz.func264,Tryz.ntmps264
  go_wp2_with fail
  refine(HI.out _ zX).mono ?_
  rintro e w1 ⟨rfl,E1⟩
  go_wp2
  go_ret
  exact⟨by simp,zX⟩
theorem Zf9 (args:Array Value)(w:World):(callFunc 265 args).run Tryz.prog w= .ok (.enter 265 args) w:=by kernel_rfl
theorem Zkg (n:Nat)(m:Mg)(v:Value)(c:Ch)(w:World)(h:Blk w n 62 (mgA m v)):
  Calls Tryz.prog 265 #[.agg (chL c).toArray,.pointer (some ⟨n,0,none⟩)] w fun e w'=>e= .returned (.bool (c.re==m.se))∧Ext w w':=by
 have c1:=(mgC (h.alloc (.cells (chL c).toArray 156))).k2
 clear h
 go_enter Tryz.func265,Tryz.ntmps265
 go_wp2
 go_ret
 exact⟨rfl,zX⟩
theorem Zi1 {m:Mg}{v:Value}{n:Nat}{w:World}(h:Blk w n 62 (mgA m v)):Zg0 265 #[] #[.pointer (some ⟨n,0,none⟩)] ChR (fun c=>c.re==m.se) w:=
 ⟨Zf9,fun cs d w' hE hr=>by
  obtain rfl:cs=chL d:=hr
  exact Zkg n m v d w' (h.ext hE)⟩
theorem Zga (args:Array Value)(w:World):(callFunc 268 args).run Tryz.prog w= .ok (.enter 268 args) w:=by kernel_rfl
theorem Zkh (n:Nat)(x d:Ch)(w:World)(h:Blk w n 156 (chL x).toArray):
  Calls Tryz.prog 268 #[.agg (chL d).toArray,.pointer (some ⟨n,0,none⟩)] w fun e w'=>e= .returned (.bool (decide (x.lo≤d.lo)))∧Ext w w':=by
 have c1:=(h.alloc (.cells (chL d).toArray 156)).cell 0
 simp only[List.getElem?_toArray,List.getElem?_cons_zero] at c1
 clear h
 go_enter Tryz.func268,Tryz.ntmps268
 go_wp2
 go_ret
 exact⟨rfl,zX⟩
theorem Zi2 {x:Ch}{n:Nat}{w:World}(h:Blk w n 156 (chL x).toArray):Zg0 268 #[] #[.pointer (some ⟨n,0,none⟩)] ChR (fun d=>decide (x.lo≤d.lo)) w:=
 ⟨Zga,fun cs d w' hE hr=>by
  obtain rfl:cs=chL d:=hr
  exact Zkh n x d w' (h.ext hE)⟩
theorem Zi3 (base:Nat)(v y:Value)(cs:List Ch)(c:Ch)(w:World)(h:OwnS ChR 156 base (fun _=>False) w v cs)(hy:RdY ChR (fun _=>False) w y [c])(hn:cs.length≤1000)(hb:base≤w.heap.size):
  Calls Tryz.prog 269 #[v,.int .i64 (cs.length:Int),y] w fun e w'=>
   ∃A' c',e= .returned (.slice A' (cs.length+1) c')∧OwnS ChR 156 base (fun _=>False) w' (.slice A' (cs.length+1) c') (cs++ [c])∧Mod (fun k=>v.ownBlock=some k) w w':=by
 obtain⟨Ad,cc,rfl,hc1,hc2⟩:=h.shape
 obtain⟨Ay,cy,rfl,-,-⟩:=hy.shape
 have H:=zh h
 have HY:=zh hy
 obtain⟨L,hL⟩:=zm (cs.length)
 have HL:=zh hL
 rw[hL] at H hc1 hn⊢
 have i1:(0:Int)≤(L:Int):=by omega
 have i2:(L:Int)≤(cc:Int):=by omega
 clear h hy hL
 by_cases hcl:cc=L
 ·subst hcl
  go_enter Tryz.func269,Tryz.ntmps269
  go_wp2_with((at_builtin;refine wpList_app (e:=ChR) (base:=base) (B:=fun _=>False) (A:=fun _=>False) rfl (.tmp 23) (.tmp 24) rfl Tryz.underlying70 Zg1 rfl H.out rfl HY.out rfl (fun _ _ h=>h.elim) (N:=cc+1) (by rw[HL.out];rfl) (by unfold maxLen;omega) (by omega) hb ?_;intro A1 c1 w1 hown hM hB))
  go_ret
  exact⟨A1,c1,rfl,hown,hM⟩
 ·
  go_enter Tryz.func269,Tryz.ntmps269
  go_wp2_with((at_builtin;refine wpList_app (e:=ChR) (base:=base) (B:=fun _=>False) (A:=fun _=>False) rfl (.tmp 23) (.tmp 24) rfl Tryz.underlying70 Zg1 rfl H.out rfl HY.out rfl (fun _ _ h=>h.elim) (N:=L+1) (by rw[HL.out];rfl) (by unfold maxLen;omega) (by omega) hb ?_;intro A1 c1 w1 hown hM hB))
  go_ret
  exact⟨A1,c1,rfl,hown,hM⟩
theorem Zmz {A:Nat→Prop}(g:Nat)(cv ov vv ev:Value)(cs:List Ch)(w:World)(h:Blk w g 267 (tkA cv (.int .u32 4096) (.bool false) ov vv ev))(hc:RdY ChR A w cv cs)(hn:cs.length≤1000)(hlo:∀n:Nat,n<cs.length→∃c∈cs,c.lo=(n:Int)):
  Calls Tryz.prog 266 #[.pointer (some ⟨g,0,none⟩)] w fun e w'=>e= .returned (.int .u32 (cs.length:Int))∧Ext w w':=by
 obtain⟨Ad,cc,rfl,-,-⟩:=hc.shape
 have HB:=zh h
 have HC:=zh hc
 have HLO:=zh hlo
 obtain⟨L,hL⟩:=zm (cs.length)
 have HL:=zh hL
 rw[hL] at HB HC hn⊢
 have k0:=HB.out.cell 0
 have k1:=HB.out.cell 1
 have k2:=HB.out.cell 2
 simp only[zG] at k0 k1 k2
 have hwr:IntKind.u32.wrap (L:Int)=(L:Int):=by unfold IntKind.wrap;simp[IntKind.bits,IntKind.signed];omega
 clear h hc hlo hL
 go_enter Tryz.func266,Tryz.ntmps266
 go_wp2
 go_loopw [11] (fun i wr=>∃m:Nat,m≤L∧i= .int .u32 m∧Hid (Ext w wr)) (fun i _=>L - (intOf i).toNat)
 case atStart=>exact⟨0,Nat.zero_le _,rfl,zh (Ext.refl _)⟩
 case round=>
  obtain⟨m,hm,rfl,hE⟩:=hrel
  have k0:=Zaa hE.out k0
  have k1:=Zaa hE.out k1
  have k2:=Zaa hE.out k2
  by_cases hml:m<L
  ·obtain⟨j,c,hj,-,-⟩:=Zph (HLO.out m (by rw[HL.out];exact hml))
   have HF:=zh (Zfe (A:=A) (.slice Ad L cc) false cs (m:Int) wr (HC.out.ext hE.out))
   rw[hj] at HF
   have hj0:¬(j:Int)<0:=by omega
   have hwr2:IntKind.u32.wrap ((m:Int)+1)=(m:Int)+1:=by unfold IntKind.wrap;simp[IntKind.bits,IntKind.signed];omega
   clear hj
   go_wp2_with fail
   refine(HF.out).mono ?_
   rintro e w1 ⟨rfl,E1⟩
   have hE1:=zh (hE.out.trans E1)
   clear hE E1 HF k0 k1 k2
   go_wp2
   go_roundw
   case rel=>exact⟨m+1,by omega,by go_num,hE1⟩
   case measure=>simp[intOf];omega
  ·obtain rfl:m=L:=by omega
   go_wp2
   go_ret
   exact⟨rfl,hE.out⟩
def Zsi:ByteArray:=⟨#[115,101,115,115,105,111,110]⟩
def Zg7 (cs:List Ch):Prop:=∀ (j:Nat) (c:Ch),cs[j]?=some c→c.lo=(j:Int)
theorem Zg7.has {cs:List Ch}(h:Zg7 cs)(n:Nat)(hn:n<cs.length):∃c∈cs,c.lo=(n:Int):=⟨cs[n],List.getElem_mem hn,h n _ (List.getElem?_eq_getElem hn)⟩
theorem Zg7.fnd {cs:List Ch}(h:Zg7 cs){j:Nat}{c:Ch}(hj:cs[j]?=some c):Zl8 cs (j:Int)=j:=by
 have h1:=h j c hj
 have h2:=Zmy hj (fun i d hi hd=>by rw[h i d hd,h1];omega)
 rw[h1] at h2
 exact h2
theorem Zg7.snoc {cs:List Ch}(h:Zg7 cs){c:Ch}(hc:c.lo=(cs.length:Int)):Zg7 (cs++ [c]):=by
 intro j d hd
 rcases Nat.lt_or_ge j cs.length with hj|hj
 ·rw[List.getElem?_append_left hj] at hd
  exact h j d hd
 ·rw[List.getElem?_append_right hj] at hd
  have h0:j - cs.length=0:=by
   have:=(List.getElem?_eq_some_iff.1 hd).1
   simpa using this
  rw[h0] at hd
  obtain rfl:c=d:=by simpa using hd
  omega
def newC (cs:List Ch)(m:Mg):Ch:=⟨cs.length,m.se,m.wi,m.pk,4096,0⟩
def ZaI (cs:List Ch)(m:Mg):Mg:=⟨91,m.se,cs.length,4096,32768,0,⟨#[]⟩,⟨#[]⟩,false,[]⟩
def Zoq (cs:List Ch):Ev:=⟨1,cs.length,0,⟨#[]⟩,false,[]⟩
def ZqZ (g base:Nat)(cv:Value)(cs:List Ch)(m:Mg)(w:World)(e:Ending)(w':World):Prop:=
 e= .returned (.tuple #[])∧∃A1 c1 A2 c2 A3 c3,Blk w' g 267 (tkA (.slice A1 (cs.length+1) c1) (.int .u32 4096) (.bool false) (.slice A2 1 c2) (.slice A3 1 c3) (.int .i64 0))∧
  OwnS ChR 156 base (fun _=>False) w' (.slice A1 (cs.length+1) c1) (cs++ [newC cs m])∧OwnS MgR 62 base (fun _=>False) w' (.slice A2 1 c2) [ZaI cs m]∧
  OwnS EvR 207 base (fun _=>False) w' (.slice A3 1 c3) [Zoq cs]∧Mod (fun k=>k=g∨cv.ownBlock=some k) w w'
theorem ZmA (g base:Nat)(cv:Value)(cs:List Ch)(m:Mg)(v:Value)(w:World)(h:Blk w g 267 (tkA cv (.int .u32 4096) (.bool false) (.slice none 0 0) (.slice none 0 0) (.int .i64 0)))
  (hc:OwnS ChR 156 base (fun _=>False) w cv cs) (hb:base≤w.heap.size) (hn:cs.length<8) (hlo:Zg7 cs) (hnm:m.nm=Zsi) (hse:∀c∈cs,c.re≠m.se):
  Calls Tryz.prog 209 #[.pointer (some ⟨g,0,none⟩),.agg (mgA m v)] w (ZqZ g base cv cs m w):=by
 have hiC:=zi Tryz.prog 156 12
 obtain⟨Ad,cc,rfl,-,-⟩:=hc.shape
 obtain⟨W1,hW1⟩:=zn (w.alloc (.cells (mgA m v) 62))
 have E1:Ext w W1:=by rw[hW1];exact(Ext.refl _).alloc _
 have P1:=zh (show Blk W1 w.heap.size 62 (mgA m v) by rw[hW1];exact Blk.new w _ _)
 have HW1:=zh hW1
 have HB:=zh (h.ext E1)
 have HC:=zh (hc.ext E1)
 have hgl:=h.lt
 have hrow:=zh (show ∀k,(Value.slice Ad cs.length cc).ownBlock=some k→k<w.heap.size from fun k hk=>(hc.row k hk).2)
 have k6:=(mgC P1.out).k6
 rw[hnm] at k6
 have k6:W1.cell? ⟨w.heap.size,6,none⟩=some (.string ⟨#[115,101,115,115,105,111,110]⟩):=k6
 obtain⟨L,hL⟩:=zm (cs.length)
 have HL:=zh hL
 have k0:=HB.out.cell 0
 simp only[List.getElem?_toArray,List.getElem?_cons_zero] at k0
 have HCF:=zh (fun w' (E:Ext W1 w')=>Zg6 (A:=fun _=>True) _ _ _ _ (.slice Ad cs.length cc) cs w' (RdS.y (HC.out.ext E).rdT) (Zi1 (P1.out.ext E)))
 have hany:cs.any (fun c=>c.re==m.se)=false:=by
  rw[List.any_eq_false]
  intro c hc9
  simpa using hse c hc9
 rw[hany] at HCF
 have HFR:=zh (fun w' (E:Ext W1 w')=>Zmz (A:=fun _=>True) g (.slice Ad cs.length cc) (.slice none 0 0) (.slice none 0 0) (.int .i64 0) cs w' (HB.out.ext E) (RdS.y (HC.out.ext E).rdT) (by omega) hlo.has)
 have HLO:=zh hlo
 have h8:¬(8:Int)≤(L:Int):=by omega
 unfold ZqZ
 obtain⟨n1,hn1⟩:=zm (w.heap.size)
 have HN1:=zh hn1
 rw[hL] at HCF HFR HC HB k0 hrow⊢
 rw[hn1] at P1 k6 hgl HCF hrow
 clear h hc hW1 hL hlo hnm hse hany hn1
 go_enter Tryz.func209,Tryz.ntmps209
 go_upto_region 1 with fail
 rw[←HW1.out]
 rw[HN1.out]
 clear HW1
 generalize Value.agg (mgA m v)=z1
 go_wp2_with fail
 refine(HCF.out _ zX).mono ?_
 rintro e w2 ⟨rfl,E2⟩
 have HB:=zh (HB.out.ext E2)
 have HC:=zh (HC.out.ext E2)
 have P1:=zh (P1.out.ext E2)
 have E02:=E1.trans E2
 clear k0 k6 E1
 go_upto_region 10 with fail
 go_cut [5] (fun s5 wx=>∃n5:Nat,s5= .pointer (some ⟨n5,0,none⟩)∧w2.heap.size≤n5∧Hid (Blk wx n5 156 #[.int .u32 (L:Int),.int .u32 m.se,.int .u32 m.wi,.int .u32 m.pk,.int .u32 4096,.int .u32 4096,.bool false,.bool false,.bool false,.bool false,.int .i64 0,.bool false])∧Ext w2 wx)
 case first=>
  have q2:=(mgC P1.out).k2
  have q3:=(mgC P1.out).k3
  have q4:=(mgC P1.out).k4
  have q1:=HB.out.cell 1
  simp only[zG] at q1
  refine zg (fun w'=>Ext w2 w') (Ext.drew (Ext.refl _)) fun hHeld=>?_
  obtain⟨D,hD⟩:=zn (w2.drew)
  have ED:Ext w2 D:=by rw[hD];exact(Ext.refl _).drew
  rw[←hD] at hHeld⊢
  clear hD
  refine zr 0 ?_
  refine zr 2 ?_
  refine zv 3 q2 ?_
  refine zr 4 ?_
  refine zv 5 q3 ?_
  refine zr 6 ?_
  refine zv 7 q4 ?_
  (refine zU 8 (v:=.agg #[.int .u32 m.wi,.int .u32 m.pk]) rfl (Zae (by rfl) 152 _ rfl (by simp[go_sem];exact(by kernel_rfl))) ?_)
  refine zr 9 ?_
  refine zr 10 ?_
  refine zr 11 ?_
  refine zr 12 ?_
  refine zv 13 q1 ?_
  refine zr 14 ?_
  refine zr 15 ?_
  refine zr 16 ?_
  refine zr 17 ?_
  refine zv 18 q1 ?_
  (refine zU 19 (v:=.agg #[.int .u32 4096,.int .u32 4096]) rfl (Zae (by rfl) 154 _ rfl (by simp[go_sem];exact(by kernel_rfl))) ?_)
  have hs2:=ED.size
  refine wpAnyH_ready (rs:=[1,21]) (by kernel_rfl) (by simp) ?_
  refine AllReadyH.cons rfl (fun K hK=>?_) (AllReadyH.cons rfl (fun K hK=>?_) AllReadyH.nil)
  ·go_simp
   refine(HFR.out D (E2.trans ED)).mono ?_
   rintro e u1 ⟨rfl,F1⟩
   (try dsimp only)
   refine zo hK (ED.trans F1) fun hHeld=>?_
   clear hK K
   (refine zU 20 (v:=.agg #[.int .u32 (L:Int),.int .u32 m.se,.int .u32 m.wi,.int .u32 m.pk,.int .u32 4096,.int .u32 4096,.bool false,.bool false,.bool false,.bool false,.int .i64 0,.bool false]) rfl (Zae (by rfl) 156 _ rfl (by simp[go_sem];exact(by kernel_rfl))) ?_)
   have B5:=zh (Blk.new u1 156 ch0)
   have EU:=(ED.trans F1).alloc (.cells ch0 156)
   have hs3:=(ED.trans F1).size
   (refine za 21 EU fun hHeld=>?_)
   obtain⟨n5,hn5⟩:=zm (u1.heap.size)
   rw[hn5] at B5 hs3⊢
   generalize u1.alloc (.cells ch0 156)=u2 at*
   (refine zw 22 fun K hK=>?_;rw[if_pos (by rfl)];refine Zag 156 _ _ rfl (n5) _ rfl rfl 156 _ B5.out hiC (by rfl) (by simp[Value.oneCell']) ?_;intro u3 B6 M6;refine zo hK (Mod.toExt EU M6 (fun k hk he=>by omega)) fun hHeld=>?_;clear hK K)
   refine zd ?_
   go_wp2_with fail
   go_meet
   exact⟨n5,rfl,hs3,zh B6,hHeld⟩
  ·go_simp
   have B5:=zh (Blk.new D 156 ch0)
   have EU:=ED.alloc (.cells ch0 156)
   refine zo hK EU fun hHeld=>?_
   clear hK K
   obtain⟨n5,hn5⟩:=zm (D.heap.size)
   rw[hn5] at B5 hs2⊢
   generalize D.alloc (.cells ch0 156)=u2 at*
   refine zw 1 fun K hK=>?_
   go_simp
   refine(HFR.out u2 (E2.trans EU)).mono ?_
   rintro e u1 ⟨rfl,F1⟩
   (try dsimp only)
   refine zo hK (EU.trans F1) fun hHeld=>?_
   clear hK K
   (refine zU 20 (v:=.agg #[.int .u32 (L:Int),.int .u32 m.se,.int .u32 m.wi,.int .u32 m.pk,.int .u32 4096,.int .u32 4096,.bool false,.bool false,.bool false,.bool false,.int .i64 0,.bool false]) rfl (Zae (by rfl) 156 _ rfl (by simp[go_sem];exact(by kernel_rfl))) ?_)
   (refine zw 22 fun K hK=>?_;rw[if_pos (by rfl)];refine Zag 156 _ _ rfl (n5) _ rfl rfl 156 _ (B5.out.ext F1) hiC (by rfl) (by simp[Value.oneCell']) ?_;intro u3 B6 M6;refine zo hK (Mod.toExt (EU.trans F1) M6 (fun k hk he=>by omega)) fun hHeld=>?_;clear hK K)
   refine zd ?_
   go_wp2_with fail
   go_meet
   exact⟨n5,rfl,hs2,zh B6,hHeld⟩
 case rest=>
  obtain⟨n5,rfl,hn5,B5,E25⟩:=hcut
  obtain⟨W5,hW5⟩:=zn (wc)
  subst hW5
  have B5:=zh (show Blk W5 n5 156 (chL (newC cs m)).toArray by unfold newC;rw[HL.out];exact B5.out)
  have HB:=zh (HB.out.ext E25)
  have HC:=zh (HC.out.ext E25)
  have P1:=zh (P1.out.ext E25)
  have E05:=E02.trans E25
  have hs5:n1≤w2.heap.size:=by rw[←HN1.out];exact E02.size
  have HROW:=zh (show ∀k,(Value.slice Ad L cc).ownBlock=some k→k<n1 from fun k hk=>by have:=hrow.out k hk;omega)
  have hng:¬n5=g:=by omega
  have hgO:(Value.slice Ad L cc).ownBlock≠some g:=by
   obtain⟨us,ho,_⟩:=HC.out
   exact Zal ho HB.out (by decide)
  have HIX:=zh (Zfd (A:=fun _=>True) _ _ _ _ (.slice Ad L cc) cs W5 (RdS.y HC.out.rdT) (Zi2 B5.out))
  rw[ZaD (l:=cs) (fun d hd=>by
   obtain⟨j,hj,rfl⟩:=List.getElem_of_mem hd
   have h9:=HLO.out j _ (List.getElem?_eq_getElem hj)
   rw[h9]
   exact decide_eq_false (by show ¬((cs.length:Int)≤(j:Int));omega))] at HIX
  have k0:=HB.out.cell 0
  simp only[List.getElem?_toArray,List.getElem?_cons_zero] at k0
  clear E02 E25 HCF HFR
  go_wp2_with fail
  refine(HIX.out).mono ?_
  rintro e w6 ⟨rfl,E6⟩
  have HB:=zh (HB.out.ext E6)
  have HC:=zh (HC.out.ext E6)
  have P1:=zh (P1.out.ext E6)
  have B5:=zh (B5.out.ext E6)
  have E06:=E05.trans E6
  have k0:=HB.out.cell 0
  simp only[List.getElem?_toArray,List.getElem?_cons_zero] at k0
  clear HIX E6 E05
  go_upto_region 14 with fail
  refine Zao 13 (fun w'=>Kb.Mod (fun k=>(Value.slice Ad L cc).ownBlock=some k) w6 w') (by kernel_rfl) (Mod.of_ext (Ext.drew (Ext.refl _))) (fun hHeld=>?_)
  obtain⟨D,hD⟩:=zn (w6.drew)
  have ED:Ext w6 D:=by rw[hD];exact(Ext.refl _).drew
  rw[←hD] at hHeld⊢
  clear hD
  have hg6:g<w6.heap.size:=HB.out.lt
  have h5row:¬(Value.slice Ad L cc).ownBlock=some n5:=fun he=>by have:=HROW.out _ he;omega
  refine zk 0 ?_
  refine zk 1 ?_
  refine zk 2 ?_
  refine zk 3 ?_
  refine zk 4 ?_
  (refine zl 5 (fun _ h=>(h.cell g 0 hg6 hgO).trans k0) ?_)
  refine zk 6 ?_
  (refine ZaJ (i:=7) (v:=.agg (chL (newC cs m)).toArray) rfl (by kernel_rfl) (by kernel_rfl) (by kernel_rfl) (by kernel_rfl) (fun _ _ _ h=>h) (Zac (by rfl) 156 _ rfl _ rfl 156 (chL (newC cs m)).toArray _ _ (fun w' hSw=>(B5.out.mod hSw h5row)) Tryz.underlying156 rfl hiC) (by assumption) ?_;(try simp only[zP]))
  refine zy 8 fun K hK=>?_
  go_simp
  have HX:=zh (Blk.new D 156 (chL (newC cs m)).toArray)
  have EX:Ext D (D.alloc (.cells (chL (newC cs m)).toArray 156)):=(Ext.refl _).alloc _
  refine zo hK (Mod.of_ext (ED.trans EX)) fun hHeld=>?_
  clear hK K
  have ED4:=ED.trans EX
  have HC4:=zh (HC.out.ext ED4)
  have HB4:=zh (HB.out.ext ED4)
  have P14:=zh (P1.out.ext ED4)
  have B54:=zh (B5.out.ext ED4)
  have hds4:=ED4.size
  generalize D.alloc (.cells (chL (newC cs m)).toArray 156)=u4 at*
  generalize D.heap.size=nX at*
  clear EX ED HC HB P1 B5 k0
  have hb4:base≤u4.heap.size:=by have:=E06.size;omega
  have HIN:=zh (Zi3 base (.slice Ad cs.length cc) (.slice (some ⟨nX,0,none⟩) 1 1) cs (newC cs m) u4 (by rw[HL.out];exact HC4.out) (RdY.singleB (e:=ChR) (cs:=chL (newC cs m)) (d:=newC cs m) rfl HX.out) (by omega) hb4)
  rw[HL.out] at HIN
  refine zy 9 fun K hK=>?_
  go_simp
  refine(HIN.out).mono ?_
  rintro e u5 ⟨A1,c1,rfl,O5,M5⟩
  (try dsimp only)
  have M65:Kb.Mod (fun k=>(Value.slice Ad L cc).ownBlock=some k) w6 u5:=(Mod.of_ext ED4).trans M5
  refine zo hK M65 fun hHeld=>?_
  clear hK K
  have HB5:=zh (HB4.out.mod M5 hgO)
  have P15:=zh (P14.out.mod M5 (fun he=>by have:=HROW.out _ he;omega))
  have B55:=zh (B54.out.mod M5 h5row)
  have O5:=zh O5
  clear HIN M5 HX HC4 HB4 P14 B54
  (refine zy 10 fun K hK=>?_;go_simp;refine zo hK M65 fun hHeld=>?_;clear hK K)
  (refine zy 11 fun K hK=>?_;go_simp;refine zo hK M65 fun hHeld=>?_;clear hK K)
  refine zk 12 ?_
  have f0:=HB5.out.frozen 0
  have k0:=HB5.out.cell 0
  simp only[List.getElem?_toArray,List.getElem?_cons_zero] at k0
  (refine Zam (rs:=[13]) (by kernel_rfl) (by simp) ?_;refine Zaj.last rfl (fun K hK=>?_) Zaj.nil;go_simp;refine hK.out _ _ ?_;clear hK K;(try simp only[zP]))
  refine Zaw (by kernel_rfl) ?_ _
  have HB6:=zh (show Blk (u5.setCell ⟨g,0,none⟩ (.slice A1 (L+1) c1)) g 267 (tkA (.slice A1 (L+1) c1) (.int .u32 4096) (.bool false) (.slice none 0 0) (.slice none 0 0) (.int .i64 0)) by simpa using HB5.out.set_ 0 (.slice A1 (L+1) c1))
  have M6:Kb.Mod (fun k=>k=g) u5 (u5.setCell ⟨g,0,none⟩ (.slice A1 (L+1) c1)):=(Mod.refl _ _).set1 _
  have hgn1:g<n1:=hgl
  have hO5g:(Value.slice A1 (L+1) c1).ownBlock≠some g:=by
   obtain⟨us,ho,_⟩:=O5.out
   exact Zal ho HB5.out (by decide)
  have O6:=zh (O5.out.mod M6 (fun k hk he=>hO5g (by rw[hk,he])) (fun k _ hk=>hk.elim))
  have P16:=zh (P15.out.mod M6 (by omega))
  have B56:=zh (B55.out.mod M6 hng)
  have M06:=zh (show Kb.Mod (fun k=>k=g∨(Value.slice Ad L cc).ownBlock=some k) w _ from((Mod.of_ext E06).trans (M65.mono (fun k _ hk=>.inr hk))).trans (M6.mono (fun k _ hk=>.inl hk)))
  generalize u5.setCell ⟨g,0,none⟩ (.slice A1 (L+1) c1)=w7 at*
  clear HB5 P15 B55 O5 M65 M6 ED4 f0 k0 E06
  have q2:=(mgC P16.out).k2
  have q5:=B56.out.cell 0
  have q1:=HB6.out.cell 1
  simp only[List.getElem?_toArray,List.getElem?_cons_zero,List.getElem?_cons_succ,newC] at q1 q5
  rw[HL.out] at q5
  have hl5:=B56.out.lt
  have hl1:=P16.out.lt
  have hl6:=HB6.out.lt
  go_upto_region 15 with fail
  refine zg (fun w'=>Kb.Mod (fun k=>k=g) w7 w') (Mod.of_ext (Ext.drew (Ext.refl _))) fun hHeld=>?_
  obtain⟨D,hD⟩:=zn (w7.drew)
  have ED:Ext w7 D:=by rw[hD];exact(Ext.refl _).drew
  rw[←hD] at hHeld⊢
  clear hD
  have hn1g:¬n1=g:=by omega
  refine zr 0 ?_
  refine zr 1 ?_
  (refine zu 2 (fun _ h=>(h.cell n1 2 hl1 hn1g).trans q2) ?_)
  refine zr 3 ?_
  (refine zu 4 (fun _ h=>(h.cell n5 0 hl5 hng).trans q5) ?_)
  refine zr 5 ?_
  refine zr 6 ?_
  refine zr 7 ?_
  refine zr 8 ?_
  have q1:=Zaa ED q1
  (refine za 9 (Mod.of_ext ED) fun hHeld=>?_)
  (refine zU 10 (v:=.agg #[.int .i64 91,.int .u32 m.se,.int .u32 (L:Int),.int .u32 4096,.int .u32 32768,.int .u32 0,.string ⟨#[]⟩,.string ⟨#[]⟩,.bool false,.slice none 0 0]) rfl (Zae (by rfl) 62 _ rfl (by simp[go_sem];exact(by kernel_rfl))) ?_)
  have HSD:=zh (ZqY g (.slice A1 (L+1) c1) (.int .u32 4096) (.bool false) (.slice none 0 0) (.int .i64 0) (ZaI cs m) (.slice none 0 0) (fun _=>False) D (HB6.out.ext ED) (RdS.nil _ _ _) (fun _ h=>h.elim))
  have hcm:mgA (ZaI cs m) (.slice none 0 0)=#[.int .i64 91,.int .u32 m.se,.int .u32 (L:Int),.int .u32 4096,.int .u32 32768,.int .u32 0,.string ⟨#[]⟩,.string ⟨#[]⟩,.bool false,.slice none 0 0]:=by unfold ZaI;rw[HL.out]
  rw[hcm] at HSD
  refine zw 11 fun K hK=>?_
  go_simp
  refine(HSD.out).mono ?_
  rintro e w8 ⟨rfl,A2,c2,B8,O8,M8⟩
  (try dsimp only)
  refine zo hK ((Mod.of_ext ED).trans M8) fun hHeld=>?_
  clear hK K
  refine zd ?_
  have P18:=zh (P16.out.mod hHeld hn1g)
  have B58:=zh (B56.out.mod hHeld hng)
  have O68:=zh (O6.out.mod hHeld (fun k hk he=>hO5g (by rw[hk,he])) (fun k _ hk=>hk.elim))
  have M08:=zh (M06.out.trans (hHeld.mono (fun k _ hk=>.inl hk)))
  have B8:=zh B8
  have hO8g:(Value.slice A2 1 c2).ownBlock≠some g:=by
   obtain⟨us,ho,_⟩:=O8
   exact Zal ho B8.out (by decide)
  have hbD:base≤D.heap.size:=by have:=ED.size;have:=M06.out.size;omega
  have O8:=zh (O8.lower hbD)
  have q5:=B58.out.cell 0
  simp only[List.getElem?_toArray,List.getElem?_cons_zero,newC] at q5
  rw[HL.out] at q5
  have HTL:=zh (Zop g (.slice A1 (L+1) c1) (.int .u32 4096) (.bool false) (.slice A2 1 c2) (.int .i64 0) (Zoq cs) (.slice none 0 0) (fun _=>False) w8 B8.out (RdS.nil _ _ _) (fun _ h=>h.elim))
  have hce:evA (Zoq cs) (.slice none 0 0)=#[.int .i64 1,.int .u32 (L:Int),.int .u32 0,.string ⟨#[]⟩,.bool false,.slice none 0 0]:=by unfold Zoq;rw[HL.out]
  rw[hce] at HTL
  have hb8:base≤w8.heap.size:=by have:=M08.out.size;omega
  clear M8 hHeld HB6 O6 P16 B56 M06 HSD hcm q1 q2 ED hce
  go_wp2_with fail
  refine(HTL.out).mono ?_
  rintro e w9 ⟨rfl,A3,c3,B9,O9,M9⟩
  go_wp2
  go_end0
  exact⟨rfl,A1,c1,A2,c2,A3,c3,B9,O68.out.mod M9 (fun k hk he=>hO5g (by rw[hk,he])) (fun k _ hk=>hk.elim),O8.out.mod M9 (fun k hk he=>hO8g (by rw[hk,he])) (fun k _ hk=>hk.elim),O9.lower hb8,M08.out.trans (M9.mono (fun k _ hk=>.inl hk))⟩
def owe (c:Ch)(n:Int):Ch:={c with ow:=n}
theorem Zi4 (n:Nat)(c:Ch)(m:Mg)(v:Value)(w:World)(h:Blk w n 156 (chL c).toArray)(hwa:m.wa=true)(how:c.ow=0):
  Calls Tryz.prog 344 #[.pointer (some ⟨n,0,none⟩),.agg (mgA m v)] w fun e w'=>e= .returned (.int .i64 0)∧Blk w' n 156 (chL (owe c 1)).toArray∧Mod (fun k=>k=n) w w':=by
 obtain⟨W1,hW1⟩:=zn (w.alloc (.cells (mgA m v) 62))
 have E1:Ext w W1:=by rw[hW1];exact(Ext.refl _).alloc _
 have P1:=zh (show Blk W1 w.heap.size 62 (mgA m v) by rw[hW1];exact Blk.new w _ _)
 have HW1:=zh hW1
 have HB:=zh (h.ext E1)
 have k8:=(mgC P1.out).k8
 rw[hwa] at k8
 have k10:=HB.out.cell 10
 have f10:=HB.out.frozen 10
 simp only[List.getElem?_toArray,List.getElem?_cons_zero,List.getElem?_cons_succ,how] at k10
 clear h hW1 hwa
 go_enter Tryz.func344,Tryz.ntmps344
 go_upto_region 1 with fail
 rw[←HW1.out]
 clear HW1
 go_wp2
 go_ret
 have M1:Kb.Mod (fun k=>k=n) W1 (W1.setCell ⟨n,10,none⟩ (.int .i64 1)):=(Mod.refl _ _).set1 _
 exact⟨rfl,by simpa [owe] using HB.out.set_ 10 (.int .i64 1),(Mod.of_ext E1).trans M1⟩
theorem ZmB (c:Ch)(m:Mg)(v:Value)(w:World)(hk:m.k=98)(hwa:m.wa=true)(how:c.ow=0):
  Calls Tryz.prog 303 #[.agg (chL c).toArray,.agg (mgA m v)] w fun e w'=>e= .returned (.tuple #[.agg (chL (owe c 1)).toArray,.int .i64 0])∧Ext w w':=by
 have hiC:=zi Tryz.prog 156 12
 have hiM:=zi Tryz.prog 62 10
 obtain⟨W1,hW1⟩:=zn (((w.alloc (.cells (chL c).toArray 156)).alloc (.cells (mgA m v) 62)).alloc (.cells ch0 156))
 have E1:Ext w W1:=by rw[hW1];exact(((Ext.refl _).alloc _).alloc _).alloc _
 have B1:=zh (show Blk W1 w.heap.size 156 (chL c).toArray by rw[hW1];exact((Blk.new w _ _).alloc _).alloc _)
 have B2:=zh (show Blk W1 (w.heap.size+1) 62 (mgA m v) by rw[hW1];exact(Blk.at_ _ _ (by simp)).alloc _)
 have B3:=zh (show Blk W1 (w.heap.size+1+1) 156 ch0 by rw[hW1];exact Blk.at_ _ _ (by simp))
 have HW1:=zh hW1
 have k9:=B1.out.cell 9
 simp only[zG] at k9
 have hw1:w.heap.size+1+1<W1.heap.size:=B3.out.lt
 clear hW1
 go_enter Tryz.func303,Tryz.ntmps303
 go_upto_region 1 with fail
 rw[←HW1.out]
 clear HW1
 go_upto_region 4 with(first|(refine wpList_load_row rfl 156 _ rfl _ rfl 156 _ _ _ B1.out Tryz.underlying156 rfl hiC ?_)|(refine wpList_store_M rfl 156 _ _ rfl W1.heap.size _ rfl rfl 156 _ (Blk.new _ _ _) hiC rfl (by simp[Value.oneCell']) ?_;intro w2 P2 M2))
 have E2:Ext W1 w2:=Mod.toExt ((Ext.refl _).alloc _) M2 (fun k hk he=>by omega)
 have B1:=zh (B1.out.ext E2)
 have B2:=zh (B2.out.ext E2)
 have B3:=zh (B3.out.ext E2)
 have E02:=E1.trans E2
 have k0:=(mgC B2.out).k0
 rw[hk] at k0
 have HCA:=zh (Zi4 w.heap.size c m v w2 B1.out hwa how)
 clear k9 P2 M2 E1 E2
 go_wp2_with(first|(refine wpList_load_row rfl 62 _ rfl _ rfl 62 _ _ _ B2.out Tryz.underlying62 rfl hiM ?_)|fail)
 refine(HCA.out).mono ?_
 rintro e w3 ⟨rfl,B13,M3⟩
 have B3:=zh (B3.out.mod M3 (by omega))
 have B13:=zh B13
 have E03:=zh (Mod.toExt E02 M3 (fun k hk he=>by omega))
 clear k0 HCA M3 E02 B2 B1
 go_wp2_with(first|(refine wpList_load_row rfl 156 _ rfl _ rfl 156 _ _ _ B13.out Tryz.underlying156 rfl hiC ?_)|(refine wpList_store_M rfl 156 _ _ rfl (w.heap.size+1+1) _ rfl rfl 156 _ B3.out hiC rfl (by simp[Value.oneCell']) ?_;intro w4 P4 M4))
 refine bodyPost_ret_by (Kb.Zab Tryz.results303 _ _ (w.heap.size+1+1) 156 _ _ _ rfl _ rfl P4 Tryz.underlying156 rfl hiC) rfl ?_
 exact⟨rfl,Mod.toExt E03.out M4 (fun k hk he=>by omega)⟩
def askEv (x:Int)(m:Mg):Ev:=⟨5,x,0,m.nm,true,m.da⟩
def Zh4 (g base:Nat)(A:Nat→Prop)(cv:Value)(cs:List Ch)(j:Nat)(c:Ch)(m:Mg)(w:World)(e:Ending)(w':World):Prop:=
 e= .returned (.tuple #[])∧∃A3 c3,Blk w' g 267 (tkA cv (.int .u32 4096) (.bool false) (.slice none 0 0) (.slice A3 1 c3) (.int .i64 0))∧
  OwnS ChR 156 base (fun _=>False) w' cv (cs.set j (owe c 1))∧OwnS EvR 207 w.heap.size A w' (.slice A3 1 c3) [askEv j m]∧Mod (fun k=>k=g∨cv.ownBlock=some k) w w'
theorem Zki (g base:Nat)(A:Nat→Prop)(cv:Value)(cs:List Ch)(j:Nat)(c:Ch)(m:Mg)(v dv:Value)(w:World)(h:Blk w g 267 (tkA cv (.int .u32 4096) (.bool false) (.slice none 0 0) (.slice none 0 0) (.int .i64 0)))
  (hc:OwnS ChR 156 base (fun _=>False) w cv cs) (hlo:Zg7 cs) (hj:cs[j]?=some c) (hch:m.ch=(j:Int)) (hk:m.k=98) (hwa:m.wa=true) (how:c.ow=0)
  (hd:RdS Ub8 A w dv m.da) (hA:∀k,A k→k≠g∧k<w.heap.size∧cv.ownBlock≠some k):
  Calls Tryz.prog 270 #[.pointer (some ⟨g,0,none⟩),.agg (mgA m v),.agg #[.int .i64 5,.int .u32 0,.int .u32 0,.string m.nm,.bool true,dv]] w (Zh4 g base A cv cs j c m w):=by
 have hiC:=zi Tryz.prog 156 12
 have hiL:∀c,(Tryz.prog.info? 156).map (·.size)=some (chL c).length:=fun _=>hiC
 have hiM:=zi Tryz.prog 62 10
 have hiE:=zi Tryz.prog 207 6
 obtain⟨Ad,cc,rfl,-,-⟩:=hc.shape
 obtain⟨Av,cd,rfl,-,-⟩:=hd.shape
 obtain⟨W1,hW1⟩:=zn ((w.alloc (.cells (mgA m v) 62)).alloc (.cells #[.int .i64 5,.int .u32 0,.int .u32 0,.string m.nm,.bool true,.slice Av m.da.length cd] 207))
 have E1:Ext w W1:=by rw[hW1];exact((Ext.refl _).alloc _).alloc _
 have B1:=zh (show Blk W1 w.heap.size 62 (mgA m v) by rw[hW1];exact(Blk.new w _ _).alloc _)
 have B2:=zh (show Blk W1 (w.heap.size+1) 207 #[.int .i64 5,.int .u32 0,.int .u32 0,.string m.nm,.bool true,.slice Av m.da.length cd] by rw[hW1];exact Blk.at_ _ _ (by simp))
 have HW1:=zh hW1
 have hgl:=h.lt
 have HROW:=zh (show ∀k,(Value.slice Ad cs.length cc).ownBlock=some k→k<w.heap.size from fun k hk=>(hc.row k hk).2)
 have hgO:(Value.slice Ad cs.length cc).ownBlock≠some g:=by
  obtain⟨us,ho,_⟩:=hc
  exact Zal ho h (by decide)
 have HB:=zh (h.ext E1)
 have HC:=zh (hc.ext E1)
 have HD:=zh (hd.ext E1)
 have hlt:=(List.getElem?_eq_some_iff.1 hj).1
 have hfj:=hlo.fnd hj
 have HJ:=zh hj
 have HRC:=zh (fun w'=>ZmB c m v w' hk hwa how)
 have HAA:=zh hA
 have hlo1:=hlo j c hj
 have HFD:=zh (fun w' (E:Ext W1 w')=>Zfe (A:=fun _=>True) (.slice Ad cs.length cc) false cs m.ch w' (RdS.y (HC.out.ext E).rdT))
 rw[hch,hfj] at HFD
 unfold Zh4
 obtain⟨L,hL⟩:=zm (cs.length)
 obtain⟨DL,hDL⟩:=zm (m.da.length)
 have HL:=zh hL
 have HDL:=zh hDL
 obtain⟨n0,hn0⟩:=zm (w.heap.size)
 have HN0:=zh hn0
 rw[hL] at HFD HC HB HROW hgO hlt HAA⊢
 rw[hDL] at B2 HD HW1⊢
 rw[hn0] at B1 B2 HROW hgl HAA⊢
 have k0:=HB.out.cell 0
 have k1:=HB.out.cell 1
 have k2:=HB.out.cell 2
 have q1:=(mgC B1.out).k1
 rw[hch] at q1
 simp only[zG] at k0 k1 k2
 have hw1:n0+1<W1.heap.size:=B2.out.lt
 have hjL:(j:Int)<(L:Int):=by omega
 have hj0:¬(j:Int)<0:=by omega
 have hj00:(0:Int)≤(j:Int):=by omega
 have HK:=zh hk
 have HWA:=zh hwa
 have HCH:=zh hch
 clear h hc hd hA hW1 hL hDL hlo hj hch hk hwa how hfj hn0
 go_enter Tryz.func270,Tryz.ntmps270
 go_upto_region 1 with fail
 rw[←HW1.out]
 rw[HN0.out]
 clear HW1
 generalize Value.agg (mgA m v)=z1
 generalize Value.agg #[.int .i64 5,.int .u32 0,.int .u32 0,.string m.nm,.bool true,.slice Av DL cd]=z2
 refine zg (fun w'=>Ext W1 w') (Ext.drew (Ext.refl _)) fun hHeld=>?_
 refine zr 0 ?_
 refine zr 1 ?_
 refine zr 2 ?_
 (refine zT (i:=3) (v:=?_) rfl (Or.inl ⟨by rfl,?_⟩) ?_;rotate_left;(focus(intro w' hSw;have c0:=Zaa hSw k0;have c1:=Zaa hSw k1;have c2:=Zaa hSw k2;go_simp;try with_reducible rfl));(try simp only[zP]))
 refine zr 4 ?_
 refine zv 5 q1 ?_
 (refine zc 6 (HFD.out _ zX) ?_;rintro e w2 ⟨rfl,E2⟩ K hK;refine zo hK zX fun hHeld=>?_;clear hK K)
 refine zr 7 ?_
 refine zd ?_
 have E12:=hHeld
 have HB:=zh (HB.out.ext E12)
 have HC:=zh (HC.out.ext E12)
 have HD:=zh (HD.out.ext E12)
 have B1:=zh (B1.out.ext E12)
 have B2:=zh (B2.out.ext E12)
 have E02:=E1.trans E12
 have k0:=HB.out.cell 0
 simp only[List.getElem?_toArray,List.getElem?_cons_zero] at k0
 have hs12:=E12.size
 clear k1 k2 q1 E1 E2 HFD hHeld E12
 obtain⟨b,off,c9,d,cl,hv,hd,hrel2,hlen,hcell⟩:=(HC.out.rdT.y).cells (j:=j) (by rw[HL.out];exact hlt)
 simp only[Value.slice.injEq] at hv
 obtain⟨rfl,-,rfl⟩:=hv
 obtain rfl:c=d:=Option.some.inj (HJ.out.symm.trans hd.out)
 obtain rfl:cl=chL c:=hrel2.out
 have HCELL:=zh (show w2.rangeAt b (off+j*12) (chL c) from hcell)
 clear hcell hd hrel2 hlen
 go_upto_region 4 with fail
 go_cut [7,8] (fun s7 s8 wx=>∃n7:Nat,s7= .pointer (some ⟨n7,0,none⟩)∧s8= .int .i64 0∧w2.heap.size≤n7∧Hid (Blk wx n7 156 (chL (owe c 1)).toArray)∧Ext w2 wx)
 case first=>
  refine zg (fun w'=>Ext w2 w') (Ext.drew (Ext.refl _)) fun hHeld=>?_
  obtain⟨D,hD⟩:=zn (w2.drew)
  have ED:Ext w2 D:=by rw[hD];exact(Ext.refl _).drew
  rw[←hD] at hHeld⊢
  clear hD
  have hs2:=ED.size
  refine zr 0 ?_
  refine zr 1 ?_
  refine zr 2 ?_
  refine zr 3 ?_
  refine zv 4 k0 ?_
  refine zr 5 ?_
  refine zr 6 ?_
  (refine zU 7 rfl (yieldsIf_load_mid (by rfl) 156 _ rfl _ _ rfl (chL c) _ (fun w' hSw=>(fun i u hu=>Zaa hSw (HCELL.out i u hu))) Tryz.underlying156 rfl (hiL c)) ?_)
  (refine zU 8 rfl (Zac (by rfl) 62 _ rfl _ rfl 62 (mgA m v) _ _ (fun w' hSw=>(B1.out.ext hSw)) Tryz.underlying62 rfl hiM) ?_)
  refine wpAnyH_ready (rs:=[9,13]) (by kernel_rfl) (by simp) ?_
  refine AllReadyH.cons rfl (fun K hK=>?_) (AllReadyH.cons rfl (fun K hK=>?_) AllReadyH.nil)
  ·go_simp
   refine(HRC.out D).mono ?_
   rintro e u1 ⟨rfl,F1⟩
   (try dsimp only)
   refine zo hK (ED.trans F1) fun hHeld=>?_
   clear hK K
   refine zr 10 ?_
   refine zr 11 ?_
   refine zr 12 ?_
   have B5:=zh (Blk.new u1 156 ch0)
   have EU:=(ED.trans F1).alloc (.cells ch0 156)
   have hs3:=(ED.trans F1).size
   (refine za 13 EU fun hHeld=>?_)
   obtain⟨n5,hn5⟩:=zm (u1.heap.size)
   rw[hn5] at B5 hs3⊢
   generalize u1.alloc (.cells ch0 156)=u2 at*
   (refine zw 14 fun K hK=>?_;rw[if_pos (by rfl)];refine Zag 156 _ _ rfl (n5) _ rfl rfl 156 _ B5.out hiC (by rfl) (by simp[Value.oneCell']) ?_;intro u3 B6 M6;refine zo hK (Mod.toExt EU M6 (fun k hk he=>by omega)) fun hHeld=>?_;clear hK K)
   refine zr 15 ?_
   refine zd ?_
   go_wp2_with fail
   go_meet
   exact⟨n5,rfl,rfl,hs3,zh B6,hHeld⟩
  ·go_simp
   have B5:=zh (Blk.new D 156 ch0)
   have EU:=ED.alloc (.cells ch0 156)
   refine zo hK EU fun hHeld=>?_
   clear hK K
   obtain⟨n5,hn5⟩:=zm (D.heap.size)
   rw[hn5] at B5 hs2⊢
   generalize D.alloc (.cells ch0 156)=u2 at*
   refine zw 9 fun K hK=>?_
   go_simp
   refine(HRC.out u2).mono ?_
   rintro e u1 ⟨rfl,F1⟩
   (try dsimp only)
   refine zo hK (EU.trans F1) fun hHeld=>?_
   clear hK K
   refine zr 10 ?_
   refine zr 11 ?_
   refine zr 12 ?_
   (refine zw 14 fun K hK=>?_;rw[if_pos (by rfl)];refine Zag 156 _ _ rfl (n5) _ rfl rfl 156 _ (B5.out.ext F1) hiC (by rfl) (by simp[Value.oneCell']) ?_;intro u3 B6 M6;refine zo hK (Mod.toExt (EU.trans F1) M6 (fun k hk he=>by omega)) fun hHeld=>?_;clear hK K)
   refine zr 15 ?_
   refine zd ?_
   go_wp2_with fail
   go_meet
   exact⟨n5,rfl,rfl,hs2,zh B6,hHeld⟩
 case rest=>
  obtain⟨n7,rfl,rfl,hn7,B7,E27⟩:=hcut
  obtain⟨W5,hW5⟩:=zn (wc)
  subst hW5
  have HB:=zh (HB.out.ext E27)
  have HC:=zh (HC.out.ext E27)
  have HD:=zh (HD.out.ext E27)
  have B2:=zh (B2.out.ext E27)
  have E05:=E02.trans E27
  have k0:=HB.out.cell 0
  simp only[List.getElem?_toArray,List.getElem?_cons_zero] at k0
  have hs27:=E27.size
  obtain⟨g4,hA4,hg4,hfz⟩:=HC.out.addr (by omega)
  simp only[Option.some.injEq,Addr.mk.injEq,and_true] at hA4
  obtain⟨rfl,rfl⟩:=hA4
  have HCELL5:∀i u,(chL c)[i]?=some u→W5.cell? ⟨b,j*12+i,none⟩=some u:=fun i u hu=>by
   have h9:=Zaa E27 (HCELL.out i u hu)
   rw[Nat.zero_add] at h9
   exact h9
  have hbn7:¬b=n7:=fun he=>by
   obtain⟨us,ho,_⟩:=HC.out
   have:=HROW.out b rfl
   omega
  clear E02 E27 HCELL HRC
  go_upto_region 7 with fail
  refine Zao 8 (fun w'=>Ext W5 w') (by kernel_rfl) (Ext.drew (Ext.refl _)) (fun hHeld=>?_)
  obtain⟨D,hD⟩:=zn (W5.drew)
  have ED:Ext W5 D:=by rw[hD];exact(Ext.refl _).drew
  rw[←hD] at hHeld⊢
  clear hD
  refine zk 0 ?_
  refine zk 1 ?_
  refine zk 2 ?_
  refine zk 3 ?_
  (refine zl 4 (fun _ h=>Zaa h k0) ?_)
  refine zk 5 ?_
  (refine ZaJ (i:=6) (v:=.agg (chL (owe c 1)).toArray) rfl (by kernel_rfl) (by kernel_rfl) (by kernel_rfl) (by kernel_rfl) (fun _ _ _ h=>h) (Zac (by rfl) 156 _ rfl _ rfl 156 (chL (owe c 1)).toArray _ _ (fun w' hSw=>(B7.out.ext hSw)) Tryz.underlying156 rfl hiC) (by assumption) ?_;(try simp only[zP]))
  refine zk 7 ?_
  have hth:D.there b (j*12) 12:=fun t ht=>⟨by rw[Zaa ED (HCELL5 t _ (List.getElem?_eq_getElem (by simpa using ht)))];rfl,by
   have h9:=hfz (j*12+t)
   rw[ED.frozen b _ (by have:=HROW.out b rfl;omega)]
   exact h9⟩
  have O6:=zh (Zh2 (cs:=chL (owe c 1)) (d':=owe c 1) (HC.out.ext ED) hlt rfl)
  have M6:=zh (Mod.setCells (chL (owe c 1)) (j*12) D D (Mod.refl (fun k=>k=b) D))
  refine Zam (rs:=[8]) (by kernel_rfl) (by simp) ?_
  refine Zaj.last rfl (fun K hK=>?_) Zaj.nil
  rw[if_pos (by rfl)]
  refine wp_store_mid 156 _ _ rfl b (j*12) (chL (owe c 1)).toArray rfl rfl (by exact hth) hiC (by simp[Value.oneCell']) ?_
  refine hK.out _ _ ?_
  clear hK K
  (try simp only[zP])
  refine Zaw (by kernel_rfl) ?_ _
  have hAb:∀k,A k→k≠g∧k<n0∧k≠b:=fun k hk=>⟨(HAA.out k hk).1,(HAA.out k hk).2.1,fun he=>(HAA.out k hk).2.2 (by rw[he];rfl)⟩
  have hbg:b<n0:=HROW.out b rfl
  have hgb:¬g=b:=fun he=>hgO (by rw[he];rfl)
  have hbD:b<D.heap.size:=by have:=ED.size;omega
  have HB7:=zh ((HB.out.ext ED).mod M6.out hgb)
  have B77:=zh ((B7.out.ext ED).mod M6.out (fun he=>hbn7 he.symm))
  have B27:=zh ((B2.out.ext ED).mod M6.out (by omega))
  have HD7:=zh ((HD.out.ext ED).mod M6.out (fun k _ hk he=>(hAb k hk).2.2 he))
  have M07:=zh (show Kb.Mod (fun k=>k=g∨(Value.slice (some ⟨b,0,none⟩) L cc).ownBlock=some k) w _ from(Mod.of_ext (E05.trans ED)).trans (M6.out.mono (fun k _ hk=>.inr (by rw[hk];rfl))))
  obtain⟨W7,hW7⟩:=zn (D.setCells b (j*12) (chL (owe c 1)))
  have O7:=zh (show OwnS ChR 156 base (fun _=>False) W7 (.slice (some ⟨b,0,none⟩) L cc) (cs.set j (owe c 1)) by rw[hW7];exact O6.out)
  rw[←hW7] at HB7 B77 B27 HD7 M07
  first|rw[←hW7]|(change Exit.then _ _ _ _ (D.setCells b (j*12) (chL (owe c 1)));rw[←hW7])
  clear hW7 O6 M6 hth HB B7 B2 HD HC hHeld hfz HCELL5 E05 ED
  have q0:=B77.out.cell 0
  simp only[List.getElem?_toArray,List.getElem?_cons_zero,owe] at q0
  rw[hlo1] at q0
  have q1:=B27.out.cell 1
  have f1:=B27.out.frozen 1
  simp only[zG] at q1
  have B28:=zh (show Blk (W7.setCell ⟨n0+1,1,none⟩ (.int .u32 (j:Int))) (n0+1) 207 #[.int .i64 5,.int .u32 (j:Int),.int .u32 0,.string m.nm,.bool true,.slice Av DL cd] by simpa using B27.out.set_ 1 (.int .u32 (j:Int)))
  have M8:Kb.Mod (fun k=>k=n0+1) W7 (W7.setCell ⟨n0+1,1,none⟩ (.int .u32 (j:Int))):=(Mod.refl _ _).set1 _
  have HB8:=zh (HB7.out.mod M8 (by omega))
  have HD8:=zh (HD7.out.mod M8 (fun k _ hk he=>by have:=(hAb k hk).2.1;omega))
  have O8:=zh (O7.out.mod M8 (fun k hk he=>by
   have h9:some b=some k:=hk
   have:=Option.some.inj h9
   omega) (fun k _ hk=>hk.elim))
  have M08:=zh (show Kb.Mod (fun k=>k=g∨(Value.slice (some ⟨b,0,none⟩) L cc).ownBlock=some k) w _ from Mod.transN M07.out M8 (fun i hi he=>by have:=HN0.out;omega))
  have hs8:n0≤(W7.setCell ⟨n0+1,1,none⟩ (.int .u32 (j:Int))).heap.size:=by have:=M08.out.size;have:=HN0.out;omega
  have HTL:=zh (Zop g (.slice (some ⟨b,0,none⟩) L cc) (.int .u32 4096) (.bool false) (.slice none 0 0) (.int .i64 0) (askEv j m) (.slice Av DL cd) A _ HB8.out HD8.out (fun k hk=>⟨(hAb k hk).1,by have:=(hAb k hk).2.1;omega⟩))
  go_upto_region 9 with fail
  generalize W7.setCell ⟨n0+1,1,none⟩ (.int .u32 (j:Int))=W8 at*
  have hce:evA (askEv j m) (.slice Av DL cd)=#[.int .i64 5,.int .u32 (j:Int),.int .u32 0,.string m.nm,.bool true,.slice Av DL cd]:=rfl
  rw[hce] at HTL
  clear HB7 B77 B27 HD7 M07 O7 q0 q1 f1 M8 HB8 HD8
  go_wp2_with(first|(refine wpList_load_row rfl 207 _ rfl _ rfl 207 _ _ _ B28.out Tryz.underlying207 rfl hiE ?_)|fail)
  refine(HTL.out).mono ?_
  rintro e w9 ⟨rfl,A3,c3,B9,O9,M9⟩
  go_wp2
  go_end0
  have hw8:w.heap.size≤W8.heap.size:=by have:=HN0.out;omega
  refine⟨rfl,A3,c3,B9,O8.out.mod M9 (fun k hk he=>by
   have h9:some b=some k:=hk
   have:=Option.some.inj h9
   omega) (fun k _ hk=>hk.elim),by rw[←HN0.out];exact O9.lower hw8,M08.out.trans (M9.mono (fun k _ hk=>.inl hk))⟩
/- slices.Clone at one slice type: slices.Clone[[]byte,byte] (u8), slice type []uint8, element uint8, rep Ub8 -/
theorem Zff:(Tryz.prog.info? 5).map (fun i=>(i.zero,i.size,i.bytes))=some (some (.int .u8 0),(Ub8).size,1):=by kernel_rfl
theorem Zbr {A:Nat→Prop}(v:Value)(ds:List _)(w:World)(h:RdY Ub8 A w v ds)(hn:ds.length*1≤140737488355328):
  Calls Tryz.prog 55 #[v] w fun e w'=>∃Ad c,e= .returned (.slice Ad ds.length c)∧OwnS Ub8 5 w.heap.size (fun k=>A k∧k<w.heap.size) w' (.slice Ad ds.length c) ds∧Ext w w':=by
 obtain⟨us,⟨hl,Ad,c,rfl,hnc,hcm,hA⟩,he⟩:=id h
 have H:=zh h
 have HL:=zh hl
 clear h hl he
 have heq:=fun u=>Lib.run_eql_slice_nil (P:=Tryz.prog) u 43 _ Ad ds.length c 0 0 Tryz.underlying43
 rcases Ad with _|ad
 ·have h0:ds.length=0∧c=0:=by
   rcases hA with rfl|⟨b,off,h0,_⟩
   ·omega
   ·cases h0
  obtain⟨h1,rfl⟩:=h0
  obtain rfl:ds=[]:=List.eq_nil_of_length_eq_zero h1
  clear hA HL h1
  simp only[List.length_nil] at heq⊢
  go_enter Tryz.func55,Tryz.ntmps55
  go_wp2
  go_ret
  exact⟨_,_,rfl,OwnS.nil _ _ _ _ _,zX⟩
 ·clear hA
  go_enter Tryz.func55,Tryz.ntmps55
  go_wp2_with((at_builtin;refine wpList_app (e:=Ub8) (base:=w.heap.size) (B:=fun k=>A k∧k<w.heap.size) (A:=fun k=>A k∧k<w.heap.size) rfl _ _ rfl Tryz.underlying43 Zff rfl (OwnS.empty _ _ _ rfl (Nat.le_refl _)) rfl (RdY.alloc (RdY.lt H.out) _) rfl (fun k _ hk=>⟨hk,fun h=>by have:=hk.2;simp[Value.ownBlock] at h;omega⟩) (N:=ds.length) (by simp) (by simp[maxLen];omega) (by omega) (by simp) ?_;intro A1 c1 w1 hown hM hB;simp only[List.nil_append] at hown))
  go_ret
  exact⟨_,_,rfl,hown,zX⟩
theorem Zq0 {A B:Nat→Prop}{w:World}{v:Value}{l:List Int}(h:RdY Ub8 A w v l):RdY Ub8 B w v l:=h
theorem Zkj {A:Nat→Prop}(g base:Nat)(cv:Value)(cs:List Ch)(j:Nat)(c:Ch)(m:Mg)(v:Value)(w:World)(h:Blk w g 267 (tkA cv (.int .u32 4096) (.bool false) (.slice none 0 0) (.slice none 0 0) (.int .i64 0)))
  (hc:OwnS ChR 156 base (fun _=>False) w cv cs) (hlo:Zg7 cs) (hj:cs[j]?=some c) (hch:m.ch=(j:Int)) (hk:m.k=98) (hwa:m.wa=true) (how:c.ow=0)
  (hd:RdS Ub8 A w v m.da) (hdl:m.da.length≤1000000):
  Calls Tryz.prog 214 #[.pointer (some ⟨g,0,none⟩),.agg (mgA m v)] w (Zh4 g base (fun k=>w.heap.size≤k) cv cs j c m w):=by
 have hiM:=zi Tryz.prog 62 10
 obtain⟨Ad,cc,rfl,-,-⟩:=hc.shape
 obtain⟨W1,hW1⟩:=zn (w.alloc (.cells (mgA m v) 62))
 have E1:Ext w W1:=by rw[hW1];exact(Ext.refl _).alloc _
 have B1:=zh (show Blk W1 w.heap.size 62 (mgA m v) by rw[hW1];exact Blk.new w _ _)
 have HW1:=zh hW1
 have hgl:=h.lt
 have HROW:=zh (show ∀k,(Value.slice Ad cs.length cc).ownBlock=some k→k<w.heap.size from fun k hk=>(hc.row k hk).2)
 have HB:=zh (h.ext E1)
 have HC:=zh (hc.ext E1)
 have HCL:=zh (fun w' (E:Ext W1 w')=>Zbr (A:=fun _=>False) v m.da w' (Zq0 ((hd.ext E1).ext E).y) (by omega))
 have q6:=(mgC B1.out).k6
 have q8:=(mgC B1.out).k8
 have q9:=(mgC B1.out).k9
 rw[hwa] at q8
 obtain⟨n0,hn0⟩:=zm (w.heap.size)
 have HN0:=zh hn0
 obtain⟨L,hL⟩:=zm (cs.length)
 obtain⟨DL,hDL⟩:=zm (m.da.length)
 have HCA:=zh (fun(dv:Value) (D:World) (h1:Blk D g 267 (tkA (.slice Ad cs.length cc) (.int .u32 4096) (.bool false) (.slice none 0 0) (.slice none 0 0) (.int .i64 0))) (h2:OwnS ChR 156 base (fun _=>False) D (.slice Ad cs.length cc) cs) (h3:RdS Ub8 (fun k=>n0≤k∧k<D.heap.size) D dv m.da) (h4:n0≤D.heap.size)=>
  Zki g base (fun k=>n0≤k∧k<D.heap.size) (.slice Ad cs.length cc) cs j c m v dv D h1 h2 hlo hj hch hk hwa how h3 (fun k hk=>⟨by omega,hk.2,fun he=>by have:=HROW.out k he;omega⟩))
 unfold Zh4 at HCA⊢
 rw[hL] at HB HC HROW HCA⊢
 rw[hn0] at B1 HROW hgl q6 q8 q9⊢
 rw[hDL] at HCL
 have hs1:n0<W1.heap.size:=B1.out.lt
 clear h hc hd hW1 hL hDL hlo hj hch hk hwa how hn0
 go_enter Tryz.func214,Tryz.ntmps214
 go_upto_region 1 with fail
 rw[←HW1.out]
 rw[HN0.out]
 clear HW1
 generalize Value.agg (mgA m v)=z1
 refine zg (fun w'=>Kb.Mod (fun k=>k=g∨(Value.slice Ad L cc).ownBlock=some k) W1 w') (Mod.of_ext (Ext.drew (Ext.refl _))) fun hHeld=>?_
 obtain⟨D,hD⟩:=zn (W1.drew)
 have ED:Ext W1 D:=by rw[hD];exact(Ext.refl _).drew
 rw[←hD] at hHeld⊢
 clear hD
 have hnS:¬(n0=g∨(Value.slice Ad L cc).ownBlock=some n0):=fun h9=>h9.elim (fun h8=>by omega) (fun h8=>by have:=HROW.out n0 h8;omega)
 refine zr 0 ?_
 (refine zU 1 rfl (Zac (by rfl) 62 _ rfl _ rfl 62 (mgA m v) _ _ (fun w' hSw=>(B1.out.mod hSw hnS)) Tryz.underlying62 rfl hiM) ?_)
 refine zr 2 ?_
 (refine zu 3 (fun _ h=>(h.cell n0 6 hs1 hnS).trans q6) ?_)
 refine zr 4 ?_
 (refine zu 5 (fun _ h=>(h.cell n0 8 hs1 hnS).trans q8) ?_)
 refine zr 6 ?_
 (refine zu 7 (fun _ h=>(h.cell n0 9 hs1 hnS).trans q9) ?_)
 refine zw 8 fun K hK=>?_
 go_simp
 refine(HCL.out _ ED).mono ?_
 rintro e w2 ⟨A2,c2,rfl,O2,E2⟩
 (try dsimp only)
 refine zo hK (Mod.of_ext (ED.trans E2)) fun hHeld=>?_
 clear hK K
 (refine zU 9 (v:=.agg #[.int .i64 5,.int .u32 0,.int .u32 0,.string m.nm,.bool true,.slice A2 DL c2]) rfl (Zae (by rfl) 207 _ rfl (by simp[go_sem];exact(by kernel_rfl))) ?_)
 have HD2:=zh ((O2.rd (A:=fun k=>n0≤k) (fun k hk=>by have:=ED.size;omega) (fun k h=>h.1.elim)).lt)
 have E12:=ED.trans E2
 have hs2:=E12.size
 have HB2:=zh (HB.out.ext E12)
 have HC2:=zh (HC.out.ext E12)
 refine zw 10 fun K hK=>?_
 go_simp
 refine(HCA.out (.slice A2 DL c2) w2 HB2.out HC2.out HD2.out (by omega)).mono ?_
 rintro e w3 ⟨rfl,A3,c3,B9,O8,O9,M9⟩
 (try dsimp only)
 have M13:=(Mod.of_ext E12).trans M9
 refine zo hK M13 fun hHeld=>?_
 clear hK K
 refine zd ?_
 go_wp2
 go_end0
 have hs0:=HN0.out
 exact⟨rfl,A3,c3,B9,O8,(O9.lower (by omega)).mono (fun k _ hk=>hk.1),(Mod.of_ext E1).trans M13⟩
def putMap (w:World)(r:Nat)(es:Array MapEntry)(c:Nat):World:={w with heap:=w.heap.setIfInBounds r (.map es c)}
theorem ZaM {w:World}{r:Nat}{o:Obj}{es:Array MapEntry}{c:Nat}(h:w.heap[r]?=some o):(putMap w r es c).heap[r]?=some (.map es c):=(MapKept.heap_set h).1
theorem ZaN {a w:World}{r:Nat}{es:Array MapEntry}{c:Nat}(h:Ext a w)(hr:a.heap.size≤r):Ext a (putMap w r es c):=
 ⟨h.os,h.tape,h.output,by simpa [putMap] using h.size,fun k hk=>(by
  show(w.heap.setIfInBounds r _)[k]?=_
  rw[Array.getElem?_setIfInBounds_ne (by omega)];exact h.block k hk)⟩
def Zbh:Value:=.func (.func 207) #[] #[]
def ZaC:Value:=.func (.func 208) #[] #[]
def ZaK:Value:=.func (.func 209) #[] #[]
def ZaU:Value:=.func (.func 210) #[] #[]
def Za3:Value:=.func (.func 211) #[] #[]
def Zbt:Value:=.func (.func 211) #[] #[]
def Zcq:Value:=.func (.func 212) #[] #[]
def Zfl:Value:=.func (.func 213) #[] #[]
def Zkk:Value:=.func (.func 214) #[] #[]
def mkE:Array MapEntry:=#[{key:=.int .i64 1,val:=Zbh,born:=0},{key:=.int .i64 80,val:=ZaC,born:=1},{key:=.int .i64 90,val:=ZaK,born:=2},{key:=.int .i64 93,val:=ZaU,born:=3},{key:=.int .i64 94,val:=Za3,born:=4},{key:=.int .i64 95,val:=Zbt,born:=5},{key:=.int .i64 96,val:=Zcq,born:=6},{key:=.int .i64 97,val:=Zfl,born:=7},{key:=.int .i64 98,val:=Zkk,born:=8}]
def ZqJ (w:World)(r:Nat):Prop:=w.heap[r]?=some (.map mkE 9)
theorem ZqJ.ext {w w':World}{r:Nat}(h:ZqJ w r)(E:Ext w w'):ZqJ w' r:=by
 unfold ZqJ at*
 rw[E.block r (lt_of_block h)];exact h
theorem Zpi {w:World}{r:Nat}{x:Int}{a:Option (Nat×Value)}(h:ZqJ w r)(hf:Instr.findNow (.int .i64) (.int .i64 x) mkE.toList 0=some a):
  (Instr.lookup 270 (.map (some r)) (.int .i64 x) true).run Tryz.prog w= .ok (match a with|some (_,v)=>.tuple #[v,.bool true]|none=>.tuple #[.nilFunc,.bool false]) w:=by
 have hc:(Instr.checkKey mkE.isEmpty 10000 3 (.int .i64 x)).run Tryz.prog w= .ok () w:=MapKept.run_checkKey (k:=.int .i64 x) Tryz.underlying3 rfl _ 9999
 have hz:=Tryz.zeroValue268 w
 cases a with
 |none=>simp[Instr.lookup,run_underlying Tryz.underlying270,MapKept.run_getObj_map h,hc,MapKept.run_findKey Tryz.underlying3 hf,hz,Result.andThen]
 |some v=>simp[Instr.lookup,run_underlying Tryz.underlying270,MapKept.run_getObj_map h,hc,MapKept.run_findKey Tryz.underlying3 hf,Result.andThen]
theorem ZaV {r clock:Nat}{k:Int}{val:Value}{es:Array MapEntry}(w:World)(hb:w.heap[r]?=some (.map es clock))(hf:Instr.findNow (.int .i64) (.int .i64 k) es.toList 0=some none):
  (Instr.mapUpdate 270 (.map (some r)) (.int .i64 k) val).run Tryz.prog w= .ok () (putMap w r (es.push {key:=.int .i64 k,val:=val,born:=clock}) (clock+1)):=by
 have hc:(Instr.checkKey false 10000 3 (.int .i64 k)).run Tryz.prog w= .ok () w:=MapKept.run_checkKey (k:=.int .i64 k) Tryz.underlying3 rfl false 9999
 simp[Instr.mapUpdate,run_underlying Tryz.underlying270,MapKept.run_getObj_map hb,hc,MapKept.run_findKey Tryz.underlying3 hf,MapKept.run_setObj_map _ hb,Result.andThen,putMap]
theorem Zq1 (w:World):Calls Tryz.prog 146 #[] w fun e w'=>e= .returned (.map (some w.heap.size))∧ZqJ w' w.heap.size∧Ext w w':=by
 have hmm:=@run_makeMap Tryz.prog
 obtain⟨W1,hW1⟩:=zn (w.alloc (.map #[] 0))
 have h1:W1.heap[w.heap.size]?=some (.map #[] 0):=by rw[hW1];exact heap_alloc_new w _
 have E1:Ext w W1:=by rw[hW1];exact(Ext.refl w).alloc _
 obtain⟨M,hM⟩:=zm (w.heap.size)
 rw[hM] at h1⊢
 have i1:=ZaV (k:=1) (val:=Zbh) W1 h1 rfl
 have h2:=ZaM (es:=#[{key:=.int .i64 1,val:=Zbh,born:=0}]) (c:=1) h1
 have E2:=ZaN (r:=M) (es:=#[{key:=.int .i64 1,val:=Zbh,born:=0}]) (c:=1) E1 (by omega)
 have e2:putMap W1 M (#[].push {key:=.int .i64 1,val:=Zbh,born:=0}) (0+1)=putMap W1 M #[{key:=.int .i64 1,val:=Zbh,born:=0}] 1:=rfl
 rw[e2] at i1
 generalize putMap W1 M #[{key:=.int .i64 1,val:=Zbh,born:=0}] 1=W2 at*
 have i2:=ZaV (k:=80) (val:=ZaC) W2 h2 rfl
 have h3:=ZaM (es:=#[{key:=.int .i64 1,val:=Zbh,born:=0},{key:=.int .i64 80,val:=ZaC,born:=1}]) (c:=2) h2
 have E3:=ZaN (r:=M) (es:=#[{key:=.int .i64 1,val:=Zbh,born:=0},{key:=.int .i64 80,val:=ZaC,born:=1}]) (c:=2) E2 (by omega)
 have e3:putMap W2 M (#[{key:=.int .i64 1,val:=Zbh,born:=0}].push {key:=.int .i64 80,val:=ZaC,born:=1}) (1+1)=putMap W2 M #[{key:=.int .i64 1,val:=Zbh,born:=0},{key:=.int .i64 80,val:=ZaC,born:=1}] 2:=rfl
 rw[e3] at i2
 generalize putMap W2 M #[{key:=.int .i64 1,val:=Zbh,born:=0},{key:=.int .i64 80,val:=ZaC,born:=1}] 2=W3 at*
 have i3:=ZaV (k:=90) (val:=ZaK) W3 h3 rfl
 have h4:=ZaM (es:=#[{key:=.int .i64 1,val:=Zbh,born:=0},{key:=.int .i64 80,val:=ZaC,born:=1},{key:=.int .i64 90,val:=ZaK,born:=2}]) (c:=3) h3
 have E4:=ZaN (r:=M) (es:=#[{key:=.int .i64 1,val:=Zbh,born:=0},{key:=.int .i64 80,val:=ZaC,born:=1},{key:=.int .i64 90,val:=ZaK,born:=2}]) (c:=3) E3 (by omega)
 have e4:putMap W3 M (#[{key:=.int .i64 1,val:=Zbh,born:=0},{key:=.int .i64 80,val:=ZaC,born:=1}].push {key:=.int .i64 90,val:=ZaK,born:=2}) (2+1)=putMap W3 M #[{key:=.int .i64 1,val:=Zbh,born:=0},{key:=.int .i64 80,val:=ZaC,born:=1},{key:=.int .i64 90,val:=ZaK,born:=2}] 3:=rfl
 rw[e4] at i3
 generalize putMap W3 M #[{key:=.int .i64 1,val:=Zbh,born:=0},{key:=.int .i64 80,val:=ZaC,born:=1},{key:=.int .i64 90,val:=ZaK,born:=2}] 3=W4 at*
 have i4:=ZaV (k:=93) (val:=ZaU) W4 h4 rfl
 have h5:=ZaM (es:=#[{key:=.int .i64 1,val:=Zbh,born:=0},{key:=.int .i64 80,val:=ZaC,born:=1},{key:=.int .i64 90,val:=ZaK,born:=2},{key:=.int .i64 93,val:=ZaU,born:=3}]) (c:=4) h4
 have E5:=ZaN (r:=M) (es:=#[{key:=.int .i64 1,val:=Zbh,born:=0},{key:=.int .i64 80,val:=ZaC,born:=1},{key:=.int .i64 90,val:=ZaK,born:=2},{key:=.int .i64 93,val:=ZaU,born:=3}]) (c:=4) E4 (by omega)
 have e5:putMap W4 M (#[{key:=.int .i64 1,val:=Zbh,born:=0},{key:=.int .i64 80,val:=ZaC,born:=1},{key:=.int .i64 90,val:=ZaK,born:=2}].push {key:=.int .i64 93,val:=ZaU,born:=3}) (3+1)=putMap W4 M #[{key:=.int .i64 1,val:=Zbh,born:=0},{key:=.int .i64 80,val:=ZaC,born:=1},{key:=.int .i64 90,val:=ZaK,born:=2},{key:=.int .i64 93,val:=ZaU,born:=3}] 4:=rfl
 rw[e5] at i4
 generalize putMap W4 M #[{key:=.int .i64 1,val:=Zbh,born:=0},{key:=.int .i64 80,val:=ZaC,born:=1},{key:=.int .i64 90,val:=ZaK,born:=2},{key:=.int .i64 93,val:=ZaU,born:=3}] 4=W5 at*
 have i5:=ZaV (k:=94) (val:=Za3) W5 h5 rfl
 have h6:=ZaM (es:=#[{key:=.int .i64 1,val:=Zbh,born:=0},{key:=.int .i64 80,val:=ZaC,born:=1},{key:=.int .i64 90,val:=ZaK,born:=2},{key:=.int .i64 93,val:=ZaU,born:=3},{key:=.int .i64 94,val:=Za3,born:=4}]) (c:=5) h5
 have E6:=ZaN (r:=M) (es:=#[{key:=.int .i64 1,val:=Zbh,born:=0},{key:=.int .i64 80,val:=ZaC,born:=1},{key:=.int .i64 90,val:=ZaK,born:=2},{key:=.int .i64 93,val:=ZaU,born:=3},{key:=.int .i64 94,val:=Za3,born:=4}]) (c:=5) E5 (by omega)
 have e6:putMap W5 M (#[{key:=.int .i64 1,val:=Zbh,born:=0},{key:=.int .i64 80,val:=ZaC,born:=1},{key:=.int .i64 90,val:=ZaK,born:=2},{key:=.int .i64 93,val:=ZaU,born:=3}].push {key:=.int .i64 94,val:=Za3,born:=4}) (4+1)=putMap W5 M #[{key:=.int .i64 1,val:=Zbh,born:=0},{key:=.int .i64 80,val:=ZaC,born:=1},{key:=.int .i64 90,val:=ZaK,born:=2},{key:=.int .i64 93,val:=ZaU,born:=3},{key:=.int .i64 94,val:=Za3,born:=4}] 5:=rfl
 rw[e6] at i5
 generalize putMap W5 M #[{key:=.int .i64 1,val:=Zbh,born:=0},{key:=.int .i64 80,val:=ZaC,born:=1},{key:=.int .i64 90,val:=ZaK,born:=2},{key:=.int .i64 93,val:=ZaU,born:=3},{key:=.int .i64 94,val:=Za3,born:=4}] 5=W6 at*
 have i6:=ZaV (k:=95) (val:=Zbt) W6 h6 rfl
 have h7:=ZaM (es:=#[{key:=.int .i64 1,val:=Zbh,born:=0},{key:=.int .i64 80,val:=ZaC,born:=1},{key:=.int .i64 90,val:=ZaK,born:=2},{key:=.int .i64 93,val:=ZaU,born:=3},{key:=.int .i64 94,val:=Za3,born:=4},{key:=.int .i64 95,val:=Zbt,born:=5}]) (c:=6) h6
 have E7:=ZaN (r:=M) (es:=#[{key:=.int .i64 1,val:=Zbh,born:=0},{key:=.int .i64 80,val:=ZaC,born:=1},{key:=.int .i64 90,val:=ZaK,born:=2},{key:=.int .i64 93,val:=ZaU,born:=3},{key:=.int .i64 94,val:=Za3,born:=4},{key:=.int .i64 95,val:=Zbt,born:=5}]) (c:=6) E6 (by omega)
 have e7:putMap W6 M (#[{key:=.int .i64 1,val:=Zbh,born:=0},{key:=.int .i64 80,val:=ZaC,born:=1},{key:=.int .i64 90,val:=ZaK,born:=2},{key:=.int .i64 93,val:=ZaU,born:=3},{key:=.int .i64 94,val:=Za3,born:=4}].push {key:=.int .i64 95,val:=Zbt,born:=5}) (5+1)=putMap W6 M #[{key:=.int .i64 1,val:=Zbh,born:=0},{key:=.int .i64 80,val:=ZaC,born:=1},{key:=.int .i64 90,val:=ZaK,born:=2},{key:=.int .i64 93,val:=ZaU,born:=3},{key:=.int .i64 94,val:=Za3,born:=4},{key:=.int .i64 95,val:=Zbt,born:=5}] 6:=rfl
 rw[e7] at i6
 generalize putMap W6 M #[{key:=.int .i64 1,val:=Zbh,born:=0},{key:=.int .i64 80,val:=ZaC,born:=1},{key:=.int .i64 90,val:=ZaK,born:=2},{key:=.int .i64 93,val:=ZaU,born:=3},{key:=.int .i64 94,val:=Za3,born:=4},{key:=.int .i64 95,val:=Zbt,born:=5}] 6=W7 at*
 have i7:=ZaV (k:=96) (val:=Zcq) W7 h7 rfl
 have h8:=ZaM (es:=#[{key:=.int .i64 1,val:=Zbh,born:=0},{key:=.int .i64 80,val:=ZaC,born:=1},{key:=.int .i64 90,val:=ZaK,born:=2},{key:=.int .i64 93,val:=ZaU,born:=3},{key:=.int .i64 94,val:=Za3,born:=4},{key:=.int .i64 95,val:=Zbt,born:=5},{key:=.int .i64 96,val:=Zcq,born:=6}]) (c:=7) h7
 have E8:=ZaN (r:=M) (es:=#[{key:=.int .i64 1,val:=Zbh,born:=0},{key:=.int .i64 80,val:=ZaC,born:=1},{key:=.int .i64 90,val:=ZaK,born:=2},{key:=.int .i64 93,val:=ZaU,born:=3},{key:=.int .i64 94,val:=Za3,born:=4},{key:=.int .i64 95,val:=Zbt,born:=5},{key:=.int .i64 96,val:=Zcq,born:=6}]) (c:=7) E7 (by omega)
 have e8:putMap W7 M (#[{key:=.int .i64 1,val:=Zbh,born:=0},{key:=.int .i64 80,val:=ZaC,born:=1},{key:=.int .i64 90,val:=ZaK,born:=2},{key:=.int .i64 93,val:=ZaU,born:=3},{key:=.int .i64 94,val:=Za3,born:=4},{key:=.int .i64 95,val:=Zbt,born:=5}].push {key:=.int .i64 96,val:=Zcq,born:=6}) (6+1)=putMap W7 M #[{key:=.int .i64 1,val:=Zbh,born:=0},{key:=.int .i64 80,val:=ZaC,born:=1},{key:=.int .i64 90,val:=ZaK,born:=2},{key:=.int .i64 93,val:=ZaU,born:=3},{key:=.int .i64 94,val:=Za3,born:=4},{key:=.int .i64 95,val:=Zbt,born:=5},{key:=.int .i64 96,val:=Zcq,born:=6}] 7:=rfl
 rw[e8] at i7
 generalize putMap W7 M #[{key:=.int .i64 1,val:=Zbh,born:=0},{key:=.int .i64 80,val:=ZaC,born:=1},{key:=.int .i64 90,val:=ZaK,born:=2},{key:=.int .i64 93,val:=ZaU,born:=3},{key:=.int .i64 94,val:=Za3,born:=4},{key:=.int .i64 95,val:=Zbt,born:=5},{key:=.int .i64 96,val:=Zcq,born:=6}] 7=W8 at*
 have i8:=ZaV (k:=97) (val:=Zfl) W8 h8 rfl
 have h9:=ZaM (es:=#[{key:=.int .i64 1,val:=Zbh,born:=0},{key:=.int .i64 80,val:=ZaC,born:=1},{key:=.int .i64 90,val:=ZaK,born:=2},{key:=.int .i64 93,val:=ZaU,born:=3},{key:=.int .i64 94,val:=Za3,born:=4},{key:=.int .i64 95,val:=Zbt,born:=5},{key:=.int .i64 96,val:=Zcq,born:=6},{key:=.int .i64 97,val:=Zfl,born:=7}]) (c:=8) h8
 have E9:=ZaN (r:=M) (es:=#[{key:=.int .i64 1,val:=Zbh,born:=0},{key:=.int .i64 80,val:=ZaC,born:=1},{key:=.int .i64 90,val:=ZaK,born:=2},{key:=.int .i64 93,val:=ZaU,born:=3},{key:=.int .i64 94,val:=Za3,born:=4},{key:=.int .i64 95,val:=Zbt,born:=5},{key:=.int .i64 96,val:=Zcq,born:=6},{key:=.int .i64 97,val:=Zfl,born:=7}]) (c:=8) E8 (by omega)
 have e9:putMap W8 M (#[{key:=.int .i64 1,val:=Zbh,born:=0},{key:=.int .i64 80,val:=ZaC,born:=1},{key:=.int .i64 90,val:=ZaK,born:=2},{key:=.int .i64 93,val:=ZaU,born:=3},{key:=.int .i64 94,val:=Za3,born:=4},{key:=.int .i64 95,val:=Zbt,born:=5},{key:=.int .i64 96,val:=Zcq,born:=6}].push {key:=.int .i64 97,val:=Zfl,born:=7}) (7+1)=putMap W8 M #[{key:=.int .i64 1,val:=Zbh,born:=0},{key:=.int .i64 80,val:=ZaC,born:=1},{key:=.int .i64 90,val:=ZaK,born:=2},{key:=.int .i64 93,val:=ZaU,born:=3},{key:=.int .i64 94,val:=Za3,born:=4},{key:=.int .i64 95,val:=Zbt,born:=5},{key:=.int .i64 96,val:=Zcq,born:=6},{key:=.int .i64 97,val:=Zfl,born:=7}] 8:=rfl
 rw[e9] at i8
 generalize putMap W8 M #[{key:=.int .i64 1,val:=Zbh,born:=0},{key:=.int .i64 80,val:=ZaC,born:=1},{key:=.int .i64 90,val:=ZaK,born:=2},{key:=.int .i64 93,val:=ZaU,born:=3},{key:=.int .i64 94,val:=Za3,born:=4},{key:=.int .i64 95,val:=Zbt,born:=5},{key:=.int .i64 96,val:=Zcq,born:=6},{key:=.int .i64 97,val:=Zfl,born:=7}] 8=W9 at*
 have i9:=ZaV (k:=98) (val:=Zkk) W9 h9 rfl
 have h10:=ZaM (es:=mkE) (c:=9) h9
 have E10:=ZaN (r:=M) (es:=mkE) (c:=9) E9 (by omega)
 have e10:putMap W9 M (#[{key:=.int .i64 1,val:=Zbh,born:=0},{key:=.int .i64 80,val:=ZaC,born:=1},{key:=.int .i64 90,val:=ZaK,born:=2},{key:=.int .i64 93,val:=ZaU,born:=3},{key:=.int .i64 94,val:=Za3,born:=4},{key:=.int .i64 95,val:=Zbt,born:=5},{key:=.int .i64 96,val:=Zcq,born:=6},{key:=.int .i64 97,val:=Zfl,born:=7}].push {key:=.int .i64 98,val:=Zkk,born:=8}) (8+1)=putMap W9 M mkE 9:=rfl
 rw[e10] at i9
 generalize putMap W9 M mkE 9=W10 at*
 rw[←hM] at i1 i2 i3 i4 i5 i6 i7 i8 i9 h10⊢
 rw[hW1] at i1
 have H:=zh h10
 have HE:=zh E10
 unfold Zbh at i1
 unfold ZaC at i2
 unfold ZaK at i3
 unfold ZaU at i4
 unfold Za3 at i5
 unfold Zbt at i6
 unfold Zcq at i7
 unfold Zfl at i8
 unfold Zkk at i9
 clear h1 h2 h3 h4 h5 h6 h7 h8 h9 h10 E1 E2 E3 E4 E5 E6 E7 E8 E9 E10 e2 e3 e4 e5 e6 e7 e8 e9 e10 hW1 hM
 go_enter Tryz.func146,Tryz.ntmps146
 go_wp2
 go_ret
 exact⟨rfl,H.out,HE.out⟩
end Go.Proofs.YtmmhcllibpmfnaaGreatDoor
