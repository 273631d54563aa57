/- Parts FC17 FD17 SH17 SI17 OA04 OB04 OC04 OD04 OE04 OF04. No condition. -/
import Derived.Test.YtmmhcllibpmfnaaGreatDoorYB01
import Derived.Deep.Cut
import Derived.Deep.DeepCutAuto
import Derived.Deep.RegionHeld3
set_option maxRecDepth 100000
set_option maxHeartbeats 8000000
namespace Go.Proofs.YtmmhcllibpmfnaaGreatDoor.Fr
open Go.RowKit Go.Kb
theorem ZoL (n:Int)(w:World)(h0:0≤n)(hn:n≤137438953472):
  Calls Tryz.prog 102 #[.slice none 0 0,.int .i64 n] w fun e w'=>∃v',e= .returned v'∧w'.ownsRow w.heap.size 5 1 v' 0 []∧Ext w w':=by
 obtain⟨i0,hi0,hz0,hz1,hz2⟩:=info_parts Zff
 by_cases h:n=0
 ·subst h
  go_enter Tryz.func102,Tryz.ntmps102
  go_wp2
  go_ret
  exact⟨_,rfl,World.ownsRow_nil _ _ _ _,zX⟩
 ·obtain⟨m,rfl⟩:=Int.eq_ofNat_of_zero_le h0
  have hr:=zh (Lib.run_append_nil_zeros (P:=Tryz.prog) w 43 3 0 5 i0 _ .i64 .i64 Tryz.underlying43 Tryz.underlying3 hi0 hz0 m (by omega) (by omega) (by omega) (by rw[hz2];omega))
  have hc1:=zh (grownCap_ge w m 0 5)
  have hc2:=zh (grownCap_le_maxLen w m 0 5 (by unfold maxLen;omega))
  go_enter Tryz.func102,Tryz.ntmps102
  go_wp2_with((at_builtin;refine Lib.wpList_append_run _ rfl _ _ _ _ rfl _ _ rfl rfl _ _ hr.out ?_))
  go_ret
  refine⟨_,rfl,World.ownsRow_made w.drew _ _ (Nat.le_refl _) hc2.out ?_,zX⟩
  have:=hc1.out
  simp only[Array.size_append,size_zeroCells,List.size_toArray,List.length_cons,List.length_nil]
  omega
theorem Zj0 (v:Value)(ls:List (Nat×List Value))(w:World)(h:ZoH w 1 v ls)(h1:∀l∈ls,∀u∈l.2,u.oneCell'=true)(hn:tot ls≤137438953472):
  Calls Tryz.prog 53 #[v] w fun e w'=>∃v',e= .returned v'∧w'.ownsRow w.heap.size 5 1 v' (tot ls) (cat ls)∧Ext w w':=by
 obtain⟨vs,hl,hrd,hvs⟩:=h
 obtain⟨_,A,c,rfl,hnc,hcm,hA⟩:=id hrd
 have HL:=zh hl
 have HR:=zh hrd
 have HV:=zh hvs
 have H1:=zh h1
 clear hl hrd hvs hA h1
 unfold maxLen at hcm
 go_enter Tryz.func53,Tryz.ntmps53
 go_wp2
 go_loop [3,11] (fun t i=>∃k:Nat,k≤ls.length∧i= .int .i64 k∧t= .int .i64 (tot (ls.take k))) (fun _ i=>ls.length - (intOf i).toNat)
 case atStart=>exact⟨0,Nat.zero_le _,rfl,by simp[tot]⟩
 case round=>
  obtain⟨k,hk,rfl,rfl⟩:=hrel
  by_cases hlt:k<ls.length
  ·obtain⟨b,off,cc,hv,_,_,hc⟩:=HR.out.form (by omega)
   simp only[Value.slice.injEq] at hv
   obtain⟨rfl,_,rfl⟩:=hv
   have hxl:k<vs.length:=by have:=HL.out;omega
   obtain⟨x,hx⟩:∃x,vs[k]?=some x:=⟨_,List.getElem?_eq_getElem hxl⟩
   obtain⟨l,hl⟩:∃l,ls[k]?=some l:=⟨_,List.getElem?_eq_getElem hlt⟩
   have hcx:=hc k x hx
   obtain⟨_,A2,c2,rfl,hnc2,hcm2,_⟩:=HV.out k x l hx hl
   have hts:=zh (ZhQ hl)
   have hle:=Zd1 ls (k+1)
   rw[hts.out] at hle
   unfold maxLen at hcm2
   clear hc hx hl
   go_wp2
   go_round
   case rel=>exact⟨k+1,by omega,by go_num,by rw[hts.out];go_num⟩
   case measure=>simp[intOf];omega
  ·obtain rfl:k=ls.length:=by omega
   have HT:Hid (ls.take ls.length=ls):=zh (List.take_length)
   rw[HT.out]
   go_wp2_with(go_at_call 102;refine(ZoL _ _ (by omega) (by omega)).mono ?_;rintro e w1 ⟨v1,rfl,hown1,hE1⟩)
   have HO:=zh hown1
   clear hown1
   obtain⟨hc1,hf1⟩:=And.intro hE1.cell hE1.frozen
   go_loopw [6,27] (fun s i wr=>∃k:Nat,k≤ls.length∧i= .int .i64 k∧wr.ownsRow w.heap.size 5 1 s (tot (ls.take k)) (cat (ls.take k))∧Ext w wr) (fun _ i _=>ls.length - (intOf i).toNat)
   case atStart=>exact⟨0,Nat.zero_le _,rfl,HO.out,hE1⟩
   case round=>
    obtain⟨k,hk,rfl,hown,hE⟩:=hrel
    have HO2:=zh hown
    clear hown hc1 hf1
    by_cases hlt:k<ls.length
    ·obtain⟨b,off,cc,hv,_,_,hc⟩:=(HR.out.ext hE).form (by omega)
     simp only[Value.slice.injEq] at hv
     obtain⟨rfl,_,rfl⟩:=hv
     have hxl:k<vs.length:=by have:=HL.out;omega
     obtain⟨x,hx⟩:∃x,vs[k]?=some x:=⟨_,List.getElem?_eq_getElem hxl⟩
     obtain⟨l,hl⟩:∃l,ls[k]?=some l:=⟨_,List.getElem?_eq_getElem hlt⟩
     have hcx:=hc k x hx
     have X:=zh ((HV.out k x l hx hl).ext hE)
     have X1:=zh (H1.out l (List.mem_of_getElem? hl))
     have hts:=zh (ZhQ hl)
     have hcs:=zh (Zl6 hl)
     have hle:=Zd1 ls (k+1)
     rw[hts.out] at hle
     clear hc hx hl
     go_wp2_with((at_builtin;refine ZfQ _ rfl _ _ rfl w.heap.size _ _ _ rfl HO2.out _ l.1 l.2 rfl X.out X1.out (by omega) hE.size ?_;intro v2 w2 hown2 hB2 hg2 hat2))
     go_roundw
     case rel=>exact⟨k+1,by omega,by go_num,by rw[hts.out,hcs.out];exact hown2,zX⟩
     case measure=>simp[intOf];omega
    ·obtain rfl:k=ls.length:=by omega
     go_wp2
     go_ret
     have:=HO2.out
     rw[HT.out] at this
     exact⟨_,rfl,this,zX⟩
theorem Zj1 {g:Nat}{lv x v2:Value}{ls:List (List Int)}{l:List Int}{base:Nat}{w w1 w2:World}{vs:List Value}(hb:Blk w g 170 #[lv])
  (hl:vs.length=ls.length) (hw:w.ownsRow base 43 1 lv ls.length vs) (hr:∀ (j:Nat) x l,vs[j]?=some x→ls[j]?=some l→ZjQ w base x l) (hbase:base≤w.heap.size)
  (hE1:Ext w w1) (hown1:w1.ownsRow w.heap.size 5 1 x l.length (u8s l)) (hown2:w2.ownsRow base 43 1 v2 (ls.length+1) (vs++ [x]))
  (hg2:(w1.alloc (.cells #[x] 43)).grownBy w2 lv.ownBlock):
  Blk (w2.setCell ⟨g,0,none⟩ v2) g 170 #[v2]∧Zb3 (w2.setCell ⟨g,0,none⟩ v2) base v2 (ls++ [l])∧Mod (fun k=>k=g∨base≤k) w (w2.setCell ⟨g,0,none⟩ v2):=by
 have e1:Ext w (w1.alloc (.cells #[x] 43)):=hE1.alloc _
 have hb2:Blk w2 g 170 #[lv]:=(hb.ext e1).grown hg2 (Ne.symm (Zal hw hb (by decide)))
 have rows:∀ {y:Value} {m:List Int},(w1.alloc (.cells #[x] 43)).ownsRow base 5 1 y m.length (u8s m)→ZjQ (w2.setCell ⟨g,0,none⟩ v2) base y m:=fun {y m} h=>
  ownsRow_setCell_other (h.kept hg2 (ZeO h (Za8 hw e1) (by decide))) (Zal (h.kept hg2 (ZeO h (Za8 hw e1) (by decide))) hb2 (by decide)) _
 refine⟨by simpa using hb2.set_ 0 v2,⟨vs++ [x],by simp[hl],?_,fun j y m hy hm=>?_⟩,?_⟩
 ·rw[List.length_append]
  exact ownsRow_setCell_other hown2 (Zal hown2 hb2 (by decide)) _
 ·rcases Nat.lt_or_ge j vs.length with hj|hj
  ·rw[List.getElem?_append_left hj] at hy
   rw[List.getElem?_append_left (by omega)] at hm
   exact rows (Za8 (hr j y m hy hm) e1)
  ·rw[List.getElem?_append_right hj] at hy
   rw[List.getElem?_append_right (by omega)] at hm
   have:j - vs.length=0:=by
    rcases Nat.eq_zero_or_pos (j - vs.length) with h|h
    ·exact h
    ·rw[List.getElem?_eq_none (by simp;omega)] at hy;cases hy
   rw[←hl,this] at hm
   rw[this] at hy
   simp at hy hm
   subst hy hm
   exact rows ((ZdL hown1 hbase).alloc _)
 ·exact((Mod.of_ext e1).grown hg2 (fun k hk=>.inr (.inr (hw.lt k hk).1))).set_ (.inr (.inl rfl)) _
theorem Zmc (g:Nat)(lv v:Value)(ls:List (List Int))(l:List Int)(base:Nat)(w:World)(hb:Blk w g 170 #[lv])(ho:Zb3 w base lv ls)(hbase:base≤w.heap.size)
  (h:RI .u8 w v l) (hn:l.length≤100000000) (hm:ls.length≤100000000):
  Calls Tryz.prog 52 #[.pointer (some ⟨g,0,none⟩),v] w fun e w'=>e= .returned (.tuple #[])∧
   ∃lv',Blk w' g 170 #[lv']∧Zb3 w' base lv' (ls++ [l])∧Mod (fun k=>k=g∨base≤k) w w':=by
 have hcell:=hb.cell 0
 simp only[List.getElem?_toArray,List.getElem?_cons_zero] at hcell
 have hfr:=hb.frozen 0
 have HB:=zh hb
 have H:=zh h
 have HO:=zh ho
 obtain⟨vs,hl,how,hrows⟩:=ho
 have HL:=zh hl
 have HW:=zh how
 have HR:=zh hrows
 clear hl how hrows h hb
 go_enter Tryz.func52,Tryz.ntmps52
 go_region_law (first|(refine ZjZ _ rfl _ _ rfl base _ _ _ rfl (Za8 HW.out (((Ext.refl w).drew.trans hE1).alloc _)) _ 1 _ rfl (RdN.one_ _ _ _) (by simp[Value.oneCell']) (by omega) (Nat.le_trans hbase (Nat.le_trans hE1.size (by simp))) ?_;intro v2 w2 hown2 hB2 hg2 hat2;obtain⟨A2,c2,rfl⟩:=Zau hown2;have B2:=(HB.out.ext (((Ext.refl w).drew.trans hE1).alloc _)).grown hg2 (Ne.symm (Zal HW.out HB.out (by decide)));have hcell2:=B2.cell0;have hfr2:=B2.frozen 0)|(go_simp;go_at_call 55;refine(Zbr _ _ _ _ (H.out.ext (by repeat(first|exact Ext.refl _|refine Ext.drew ?_))) (Zbf _ _) (by omega)).mono ?_;rintro e w1 ⟨v1,rfl,hown1,hE1⟩;obtain⟨A1,c1,rfl⟩:=Zau hown1;have hcell1:=(HB.out.ext ((Ext.refl w).drew.trans hE1)).cell0;have hcell1a:=fun o=>((HB.out.ext ((Ext.refl w).drew.trans hE1)).alloc o).cell0))
 all_goals
  go_end0
  exact⟨rfl,_,Zj1 HB.out HL.out HW.out HR.out hbase (Below.trans (Ext.refl w).drew hE1) hown1 hown2 hg2⟩
end Go.Proofs.YtmmhcllibpmfnaaGreatDoor.Fr
namespace Go.Proofs.YtmmhcllibpmfnaaGreatDoor.Fr
open Go.RowKit Go.Kb Go.Kb.Frame
theorem Bs.sub {l m:List Int}(h:Bs l)(hm:∀x∈m,x∈l):Bs m:=fun x hx=>h x (hm x hx)
def Zsg (g:Nat)(buf:List Int)(w3:World)(s:Value)(wr:World):Prop:=
 ∃ (done:List (List Int)) (r:List Int) (lv:Value),Zbd buf=(done++ (Zbd r).1,(Zbd r).2)∧RI .u8 wr s r∧Bs r∧(∀k,s.ownBlock=some k→k<w3.heap.size∧k≠g)∧done.length+r.length≤buf.length∧
  Blk wr g 170 #[lv]∧Zb3 wr w3.heap.size lv done∧Mod (fun k=>k=g∨w3.heap.size≤k) w3 wr
theorem Zsg.step {g:Nat}{buf:List Int}{w3 wr w4 w6:World}{done:List (List Int)}{r:List Int}{b off c m:Nat}{lv6:Value}
  (hfeed:Zbd buf=(done++ (Zbd r).1,(Zbd r).2)) (hr:RI .u8 wr (.slice (some ⟨b,off,none⟩) r.length c) r) (hbr:Bs r)
  (hblk:∀k,(Value.slice (some ⟨b,off,none⟩) r.length c).ownBlock=some k→k<w3.heap.size∧k≠g) (hlen:done.length+r.length≤buf.length) (hM:Mod (fun k=>k=g∨w3.heap.size≤k) w3 wr)
  (h4:4≤r.length) (hm:hd4 r=m) (hin:1≤(m:Int)∧(m:Int)≤33792) (hw:¬(r.length:Int)<4+(m:Int)) (hE4:Ext wr w4)
  (hL6:Blk w6 g 170 #[lv6]) (hO6:Zb3 w6 w3.heap.size lv6 (done++ [(r.drop 4).take m])) (hM6:Mod (fun k=>k=g∨w3.heap.size≤k) w4 w6):
  Zsg g buf w3 (.slice (if c=4+m then some ⟨b,off,none⟩ else some ⟨b,off+(4+m),none⟩) (r.length - (4+m)) (c - (4+m))) w6:=by
 have hb:=hblk b rfl
 have hob:∀k,(Value.slice (if c=4+m then some ⟨b,off,none⟩ else some ⟨b,off+(4+m),none⟩) (r.length - (4+m)) (c - (4+m))).ownBlock=some k→k=b:=by
  intro k hk
  split at hk<;>simpa [Value.ownBlock,eq_comm] using hk
 refine⟨done++ [(r.drop 4).take m],r.drop (4+m),lv6,?_,?_,Bs.sub hbr fun x hx=>List.mem_of_mem_drop hx,?_,?_,hL6,hO6,(hM.ext hE4).trans hM6⟩
 ·rw[hfeed,ZcK h4 (by rw[hm];exact hin) hm (by omega)]
  simp
 ·refine((RI.from_ hr (by omega)).ext hE4).mod hM6 fun k hk=>?_
  rw[hob k hk]
  omega
 ·intro k hk
  rw[hob k hk]
  exact hb
 ·simp
  omega
theorem ZfS {B:Nat}{buf:List Int}{w w3 wr w4 W:World}{done:List (List Int)}{r:List Int}{lv:Value}(E3:Ext w w3)(hB:w.heap.size≤B)(hB3:B+1<w3.heap.size)
  (hfeed:Zbd buf=(done++ (Zbd r).1,(Zbd r).2)) (hO:Zb3 wr w3.heap.size lv done) (hM:Mod (fun k=>k=B+1∨w3.heap.size≤k) w3 wr) (h4:4≤r.length) (hin:¬(1≤hd4 r∧hd4 r≤33792))
  (hE4:Ext wr w4) (hW:Mod (fun k=>k=B) w4 W):
  ZbC false buf=(([],true),done,5)∧(∃vs mid,Zbk W w.heap.size lv done vs∧(∀x∈vs,∀k,x.ownBlock=some k→k<mid)∧ZjQ W mid (.slice none 0 0) [])∧Ext w W:=by
 refine⟨ZcL (by rw[hfeed,Zd4 h4 hin];simp),?_,?_⟩
 ·obtain⟨vs,hv⟩:=hO
  have hv:=((hv.ext hE4).mod hW (by intro k hk;omega)).lower E3.size
  exact⟨vs,_,hv,hv.lt,World.ownsRow_nil _ _ _ _⟩
 ·exact Mod.toExt ((Mod.toExt E3 hM (by intro k hk;omega)).trans hE4) hW (by intro k hk;omega)
theorem Zd5 {B:Nat}{buf:List Int}{w w3 wr w4 w5 W:World}{done:List (List Int)}{r:List Int}{lv rv:Value}(E3:Ext w w3)(hB:w.heap.size≤B)(hB3:B+1<w3.heap.size)
  (hfeed:Zbd buf=(done++ (Zbd r).1,(Zbd r).2)) (hO:Zb3 wr w3.heap.size lv done) (hM:Mod (fun k=>k=B+1∨w3.heap.size≤k) w3 wr) (hr:Zbd r=([],some r))
  (hE4:Ext wr w4) (hE5:Ext w4 w5) (hown5:w5.ownsRow w4.heap.size 5 1 rv r.length (u8s r)) (hW:Mod (fun k=>k=B) w5 W):
  ZbC false buf=((r,false),done,0)∧(∃vs mid,Zbk W w.heap.size lv done vs∧(∀x∈vs,∀k,x.ownBlock=some k→k<mid)∧ZjQ W mid rv r)∧Ext w W:=by
 have hs:w3.heap.size≤w4.heap.size:=Nat.le_trans hM.size hE4.size
 refine⟨ZbT (by rw[hfeed,hr];simp),?_,?_⟩
 ·obtain⟨vs,hv⟩:=hO
  have hv4:=hv.ext hE4
  exact⟨vs,w4.heap.size,((hv4.ext hE5).mod hW (by intro k hk;omega)).lower E3.size,hv4.lt,own_mod hown5 hW fun k hk=>by have:=(hown5.lt k hk).1;omega⟩
 ·exact Mod.toExt (((Mod.toExt E3 hM (by intro k hk;omega)).trans hE4).trans hE5) hW (by intro k hk;omega)
theorem ZhR (vb v:Value)(bad:Bool)(xs ys:List Int)(w:World)(hx:RI .u8 w vb xs)(hy:RI .u8 w v ys)(bx:Bs xs)(bY:Bs ys)(nx:xs.length≤40000000)(ny:ys.length≤40000000):
  Calls Tryz.prog 24 #[.agg #[vb,.bool bad],v] w fun e w'=>∃rv lv,e= .returned (.tuple #[.agg #[rv,.bool (ZbC bad (xs++ys)).1.2],lv,.int .i64 (ZbC bad (xs++ys)).2.2])∧
   (∃vs mid,Zbk w' w.heap.size lv (ZbC bad (xs++ys)).2.1 vs∧(∀x∈vs,∀k,x.ownBlock=some k→k<mid)∧ZjQ w' mid rv (ZbC bad (xs++ys)).1.1)∧Ext w w':=by
 have HX:=zh hx
 have HY:=zh hy
 have BX:=zh bx
 have BY:=zh bY
 obtain⟨A,c,rfl,hxc,hxm⟩:=hx.shape
 obtain⟨A2,c2,rfl,hyc,hym⟩:=hy.shape
 clear bx bY hx hy
 have K1:Hid (∀l∈[(xs.length,u8s xs),(ys.length,u8s ys)],∀u∈l.2,u.oneCell'=true):=zh (by
  intro l hl
  simp only[List.mem_cons,List.not_mem_nil,or_false] at hl
  rcases hl with rfl|rfl
  ·exact Zbf _ _
  ·exact Zbf _ _)
 have K2:Hid (tot [(xs.length,u8s xs),(ys.length,u8s ys)]≤137438953472):=zh (by simp[tot];omega)
 cases bad
 ·go_enter Tryz.func24,Tryz.ntmps24
  go_wp2
  go_step3
  go_wp2_with(go_at_call 53;refine(Zj0 _ _ _ (ZoH.lit2 _ (by simp) ((((HX.out.alloc _).alloc _).alloc _)) (((HY.out.alloc _).alloc _).alloc _)) K1.out K2.out).mono ?_;rintro e w3 ⟨v3,rfl,hown3,hE3⟩)
  go_step3
  go_wp2
  have E3:Ext w w3:=zX
  have HL3:Hid (Blk w3 (w.heap.size+1+1) 170 #[.slice none 0 0]):=zh (((Blk.at_ _ _ (by simp)).alloc _).ext hE3)
  have HF3:Hid (Blk w3 (w.heap.size+1) 90 #[.slice none 0 0,.bool false]):=zh ((((Blk.at_ _ _ (by simp)).alloc _).alloc _).ext hE3)
  have hsz:w.heap.size+1+1+1<w3.heap.size:=by have:=hE3.size;simp at this;omega
  have hr3:=RdN.of_own hown3
  have hlt3:=hown3.lt
  have ht:tot [(xs.length,u8s xs),(ys.length,u8s ys)]=(xs++ys).length:=by simp[tot]
  have hc:cat [(xs.length,u8s xs),(ys.length,u8s ys)]=u8s (xs++ys):=by simp[cat]
  rw[ht,hc] at hr3
  have HR3:=zh hr3
  have HT3:=zh hlt3
  have HBs:Hid (Bs (xs++ys)):=zh (by
   intro x hx
   rcases List.mem_append.1 hx with hx|hx
   ·exact BX.out x hx
   ·exact BY.out x hx)
  have hlb:(xs++ys).length≤80000000:=by simp;omega
  clear hr3 hlt3 ht hc hown3 K1 K2
  generalize hbuf:xs++ys=buf
  rw[hbuf] at HR3 HBs hlb
  have HBUF:=zh hbuf
  clear hbuf BX BY
  have hE3':=zh hE3
  clear hE3
  go_loopw [9] (Zsg (w.heap.size+1+1) buf w3) (fun s _=>Zbz s)
  case atStart=>
   refine⟨[],buf,_,by simp,HR3.out,HBs.out,fun k hk=>?_,by simp,HL3.out,Zb3.nil _ _,Mod.refl _ _⟩
   have:=HT3.out k hk
   simp at this
   omega
  case round=>
   obtain⟨done,r,lv,hfeed,hr,hbr,hblk,hlen,hL,hO,hM⟩:=hrel
   obtain⟨A3,c3,rfl,hrc,hrm⟩:=hr.shape
   have HFeed:=zh hfeed
   have HR:=zh hr
   have HBR:=zh hbr
   have HK:=zh hblk
   have HL:=zh hL
   have HO:=zh hO
   have HM:=zh hM
   have hbd:=ZeN hbr
   clear hfeed hr hbr hblk hL hO hM
   by_cases h4:4≤r.length
   ·obtain⟨b,off,rfl⟩:=HR.out.addr (by omega)
    obtain⟨m,hm⟩:=Int.eq_ofNat_of_zero_le hbd.1
    rw[hm] at hbd
    have HMM:=zh hm
    clear hm
    by_cases hin:1≤(m:Int)∧(m:Int)≤33792
    ·have HIN:=zh hin
     have HD:=zh (decide_eq_true hin)
     by_cases hw:(r.length:Int)<4+(m:Int)
     ·have hsh:Hid (Zbd r=([],some r)):=zh (ZeP h4 (by rw[HMM.out];exact HIN.out) (by rw[HMM.out];exact hw))
      have HLW:Hid (∀W,Ext wr W→Blk W (w.heap.size+1+1) 170 #[lv]):=zh fun W hE=>HL.out.ext hE
      have HFW:Hid (∀W,Ext wr W→Blk W (w.heap.size+1) 90 #[.slice none 0 0,.bool false]):=zh fun W hE=>(HF3.out.mod HM.out (by omega)).ext hE
      go_wp2_with(first|(go_at_call 54;refine(ZcI _ r _ HR.out HBR.out h4).mono ?_;rintro e w4 ⟨rfl,hE4⟩;rw[HMM.out])|(go_at_call 51;refine(fits_any _ _).mono ?_;rintro e w5 ⟨rfl,rfl⟩;rw[HD.out]))
      have c0:=(HLW.out w4 hE4).cell0
      have c1:=(HFW.out w4 hE4).cell 0
      have c2:=(HFW.out w4 hE4).cell 1
      simp only[zG] at c1 c2
      have f1:=(HFW.out w4 hE4).frozen 0
      have f2:=(HFW.out w4 hE4).frozen 1
      go_region_law (go_simp;go_at_call 55;refine(Zbr _ _ _ _ ((HR.out.ext hE4).ext (by repeat(first|exact Ext.refl _|refine Ext.drew ?_))) (Zbf _ _) (by omega)).mono ?_;rintro e w7 ⟨v7,rfl,hown7,hE7⟩;obtain⟨A7,c7,rfl⟩:=Zau hown7;have hE7':Ext w4 w7:=(Ext.refl w4).drew.trans hE7;have d0:=(HLW.out w7 (hE4.trans hE7')).cell0;have d1:=(HFW.out w7 (hE4.trans hE7')).cell 0;have d2:=(HFW.out w7 (hE4.trans hE7')).cell 1;simp only[zG] at d1 d2;have g1:=(HFW.out w7 (hE4.trans hE7')).frozen 0;have g2:=(HFW.out w7 (hE4.trans hE7')).frozen 1)
      all_goals
       go_wp2
       rw[Exit.noGoto_ret]
      all_goals
       have hW:Mod (fun k=>k=w.heap.size+1) w7 ((w7.setCell ⟨w.heap.size+1,0,none⟩ (.slice A7 r.length c7)).setCell ⟨w.heap.size+1,1,none⟩ (.bool false)):=
        (by repeat(first|with_reducible exact Mod.refl _ _|refine Mod.drew ?_|refine Mod.drewN ?_ _|refine Mod.set1 ?_ _))
       obtain⟨e1,e2,e3⟩:=Zd5 (B:=w.heap.size+1) E3 (Nat.le_succ _) (by omega) HFeed.out HO.out HM.out hsh.out hE4 hE7' hown7 hW
       have BW:=((HFW.out w7 (hE4.trans hE7')).set_ 0 (.slice A7 r.length c7)).set_ 1 (.bool false)
       have q0:=BW.cell 0
       have q1:=BW.cell 1
       simp only[List.getElem?_toArray,List.setIfInBounds_toArray,List.set_cons_zero,List.set_cons_succ,List.getElem?_cons_zero,List.getElem?_cons_succ] at q0 q1
       refine bodyPost_ret (v:=.tuple #[.agg #[.slice A7 r.length c7,.bool false],lv,.int .i64 0]) (by simp[results,Act.put,Tryz.results24,go_sem,q0,q1]) rfl ?_
       rw[HBUF.out,e1]
       exact⟨_,_,rfl,e2,e3⟩
     ·go_wp2_with(first
       |(go_at_call 54;refine(ZcI _ r _ HR.out HBR.out h4).mono ?_;rintro e w4 ⟨rfl,hE4⟩;rw[HMM.out])
       |(go_at_call 51;refine(fits_any _ _).mono ?_;rintro e w5 ⟨rfl,rfl⟩;rw[HD.out])
       |(go_at_call 52;refine(Zmc _ lv _ done ((r.drop 4).take m) w3.heap.size _ (HL.out.ext hE4) (HO.out.ext hE4) (Nat.le_trans HM.out.size hE4.size) ((RI.sub_ HR.out (by omega)).ext hE4) (by simp;omega) (by omega)).mono ?_;rintro e w6 ⟨rfl,lv6,hL6,hO6,hM6⟩))
      exact⟨Zsg.step HFeed.out HR.out HBR.out HK.out hlen HM.out h4 HMM.out HIN.out (by omega) hE4 hL6 hO6 hM6,by simp only[Zbz];omega⟩
    ·have HIN:=zh hin
     have HD:=zh (decide_eq_false hin)
     clear hin
     have HLW:Hid (∀W,Ext wr W→Blk W (w.heap.size+1+1) 170 #[lv]):=zh fun W hE=>HL.out.ext hE
     have HFW:Hid (∀W,Ext wr W→Blk W (w.heap.size+1) 90 #[.slice none 0 0,.bool false]):=zh fun W hE=>(HF3.out.mod HM.out (by omega)).ext hE
     go_wp2_with(first
       |(go_at_call 54;refine(ZcI _ r _ HR.out HBR.out h4).mono ?_;rintro e w4 ⟨rfl,hE4⟩;rw[HMM.out])
       |(go_at_call 51;refine(fits_any _ _).mono ?_;rintro e w5 ⟨rfl,rfl⟩;rw[HD.out]))
     have c0:=(HLW.out w4 hE4).cell0
     have c1:=(HFW.out w4 hE4).cell 0
     have c2:=(HFW.out w4 hE4).cell 1
     simp only[zG] at c1 c2
     have f1:=(HFW.out w4 hE4).frozen 0
     have f2:=(HFW.out w4 hE4).frozen 1
     go_region
     go_wp2
     rw[Exit.noGoto_ret]
     have hW:Mod (fun k=>k=w.heap.size+1) w4 ((w4.setCell ⟨w.heap.size+1,0,none⟩ (.slice none 0 0)).setCell ⟨w.heap.size+1,1,none⟩ (.bool true)).drew:=
      (by repeat(first|with_reducible exact Mod.refl _ _|refine Mod.drew ?_|refine Mod.drewN ?_ _|refine Mod.set1 ?_ _))
     obtain⟨e1,e2,e3⟩:=ZfS (B:=w.heap.size+1) E3 (Nat.le_succ _) (by omega) HFeed.out HO.out HM.out h4 (by rw[HMM.out];exact HIN.out) hE4 hW
     have BW:=((HFW.out w4 hE4).set_ 0 (.slice none 0 0)).set_ 1 (.bool true)
     have q0:=BW.cell 0
     have q1:=BW.cell 1
     simp only[List.getElem?_toArray,List.setIfInBounds_toArray,List.set_cons_zero,List.set_cons_succ,List.getElem?_cons_zero,List.getElem?_cons_succ] at q0 q1
     refine bodyPost_ret (v:=.tuple #[.agg #[.slice none 0 0,.bool true],lv,.int .i64 5]) (by simp[results,Tryz.results24,go_sem,q0,q1]) rfl ?_
     rw[HBUF.out,e1]
     exact⟨_,_,rfl,e2,e3⟩
   ·have hsh:Hid (Zbd r=([],some r)):=zh (ZcJ (by omega))
    have HLW:Hid (∀W,Ext wr W→Blk W (w.heap.size+1+1) 170 #[lv]):=zh fun W hE=>HL.out.ext hE
    have HFW:Hid (∀W,Ext wr W→Blk W (w.heap.size+1) 90 #[.slice none 0 0,.bool false]):=zh fun W hE=>(HF3.out.mod HM.out (by omega)).ext hE
    have hE4:=Ext.refl wr
    go_wp2
    have c0:=(HLW.out wr hE4).cell0
    have c1:=(HFW.out wr hE4).cell 0
    have c2:=(HFW.out wr hE4).cell 1
    simp only[zG] at c1 c2
    have f1:=(HFW.out wr hE4).frozen 0
    have f2:=(HFW.out wr hE4).frozen 1
    go_region_law (go_simp;go_at_call 55;refine(Zbr _ _ _ _ ((HR.out.ext hE4).ext (by repeat(first|exact Ext.refl _|refine Ext.drew ?_))) (Zbf _ _) (by omega)).mono ?_;rintro e w7 ⟨v7,rfl,hown7,hE7⟩;obtain⟨A7,c7,rfl⟩:=Zau hown7;have hE7':Ext wr w7:=(Ext.refl wr).drew.trans hE7;have d0:=(HLW.out w7 (hE4.trans hE7')).cell0;have d1:=(HFW.out w7 (hE4.trans hE7')).cell 0;have d2:=(HFW.out w7 (hE4.trans hE7')).cell 1;simp only[zG] at d1 d2;have g1:=(HFW.out w7 (hE4.trans hE7')).frozen 0;have g2:=(HFW.out w7 (hE4.trans hE7')).frozen 1)
    all_goals
     go_wp2
     rw[Exit.noGoto_ret]
    all_goals
     have hW:Mod (fun k=>k=w.heap.size+1) w7 ((w7.setCell ⟨w.heap.size+1,0,none⟩ (.slice A7 r.length c7)).setCell ⟨w.heap.size+1,1,none⟩ (.bool false)):=
      (by repeat(first|with_reducible exact Mod.refl _ _|refine Mod.drew ?_|refine Mod.drewN ?_ _|refine Mod.set1 ?_ _))
     obtain⟨e1,e2,e3⟩:=Zd5 (B:=w.heap.size+1) E3 (Nat.le_succ _) (by omega) HFeed.out HO.out HM.out hsh.out hE4 hE7' hown7 hW
     have BW:=((HFW.out w7 (hE4.trans hE7')).set_ 0 (.slice A7 r.length c7)).set_ 1 (.bool false)
     have q0:=BW.cell 0
     have q1:=BW.cell 1
     simp only[List.getElem?_toArray,List.setIfInBounds_toArray,List.set_cons_zero,List.set_cons_succ,List.getElem?_cons_zero,List.getElem?_cons_succ] at q0 q1
     refine bodyPost_ret (v:=.tuple #[.agg #[.slice A7 r.length c7,.bool false],lv,.int .i64 0]) (by simp[results,Act.put,Tryz.results24,go_sem,q0,q1]) rfl ?_
     rw[HBUF.out,e1]
     exact⟨_,_,rfl,e2,e3⟩
 ·go_enter Tryz.func24,Tryz.ntmps24
  go_wp2
  go_step3
  go_wp2
  rw[Exit.noGoto_ret]
  refine bodyPost_ret (v:=.tuple #[.agg #[.slice none 0 0,.bool true],.slice none 0 0,.int .i64 9]) (by simp[results,Tryz.results24,go_sem]) rfl ?_
  exact⟨_,_,rfl,⟨_,0,Zbk.nil _ _,by simp,World.ownsRow_nil _ _ _ _⟩,zX⟩
end Go.Proofs.YtmmhcllibpmfnaaGreatDoor.Fr
namespace Go.Proofs.YtmmhcllibpmfnaaGreatDoor
open Go.RowKit Go.Kb
def ZqI:Array Value:=#[.int .i64 2,.int .u32 1,.slice none 0 0,.slice none 0 0]
theorem ZqP (w:World):Calls Tryz.prog 84 #[.int .i64 2] w fun e w'=>e= .returned (.bool true)∧Ext w w':=by
 go_enter Tryz.func84,Tryz.ntmps84
 go_wp2
 go_ret
 exact⟨rfl,zX⟩
theorem ZoM (w:World):Calls Tryz.prog 172 #[.int .u32 1,.int .u32 1] w fun e w'=>e= .returned (.int .i64 0)∧Ext w w':=by
 go_enter Tryz.func172,Tryz.ntmps172
 go_wp2
 go_ret
 exact⟨rfl,zX⟩
theorem ZiG (w:World):Calls Tryz.prog 88 #[.agg ZqI] w fun e w'=>e= .returned (.int .i64 0)∧Ext w w':=by
 unfold ZqI
 go_enter Tryz.func88,Tryz.ntmps88
 go_wp2_with fail
 refine(ZoM _).mono ?_
 rintro e w1 ⟨rfl,E1⟩
 go_wp2
 go_ret
 exact⟨rfl,zX⟩
theorem row2 (g:Nat)(w:World)(h:Blk w g 3 #[.int .i64 2]):Calls Tryz.prog 49 #[.slice (some ⟨g,0,none⟩) 1 1] w fun e w'=>e= .returned (.bool true)∧Ext w w':=by
 have H:=zh h
 clear h
 go_enter Tryz.func49,Tryz.ntmps49
 go_wp2
 go_loopw [7] (fun i wr=>∃m:Nat,m≤1∧i= .int .i64 m∧Hid (Ext w wr)) (fun i _=>1 - (intOf i).toNat)
 case atStart=>exact⟨0,Nat.zero_le _,rfl,zh (Ext.refl _)⟩
 case round=>
  obtain⟨m,hm,rfl,hE⟩:=hrel
  by_cases hmn:m<1
  ·obtain rfl:m=0:=by omega
   have kc:=(H.out.ext hE.out).cell0
   go_wp2_with fail
   refine(ZqP _).mono ?_
   rintro e w1 ⟨rfl,E1⟩
   have hE1:=zh (hE.out.trans E1)
   go_wp2
   go_roundw
   case rel=>exact⟨1,by omega,by go_num,hE1⟩
   case measure=>simp[intOf]
  ·obtain rfl:m=1:=by omega
   go_wp2
   go_ret
   exact⟨rfl,hE.out⟩
def fnV (a b c:Nat):List Value:=[.func (.func a) #[] #[],.func (.func b) #[] #[],.func (.func c) #[] #[]]
def sortsV:Array Value:=([Value.nilFunc,Value.nilFunc,Value.nilFunc]++fnV 85 86 87++fnV 88 86 89++
 fnV 90 91 92++fnV 93 94 95++
 fnV 96 97 98++fnV 99 100 101).toArray
theorem Zd6 (w:World):Calls Tryz.prog 50 #[] w fun e w'=>e= .returned (.agg sortsV)∧Ext w w':=by
 have hi:=zi Tryz.prog 163 21
 go_enter Tryz.func50,Tryz.ntmps50
 go_wp2_with(refine wpList_store_A rfl 163 _ _ rfl w.heap.size _ rfl rfl 163 _ (show Blk _ _ _ _ from Blk.at_ _ _ (by simp)) hi rfl (by simp[Value.oneCell']) ?_;intro w2 HB E2;have E2:=E2 w.heap.size w zX (Nat.le_refl _))
 refine bodyPost_ret_by (results_cell_row Tryz.results50 _ _ w.heap.size 163 _ _ _ rfl HB Tryz.underlying163 rfl hi) rfl ?_
 exact⟨rfl,E2⟩
abbrev Ub8:Rep Int:=Rep.int .u8
theorem ZaQ:(Tryz.prog.info? 5).map (fun i=>(i.zero,i.size,i.bytes))=some (some (.int .u8 0),Ub8.size,1):=by kernel_rfl
theorem Zsq (g:Nat)(w:World)(h:Blk w g 167 #[.slice none 0 0]):
  Calls Tryz.prog 86 #[.pointer (some ⟨g,0,none⟩),.agg ZqI] w fun e w'=>e= .returned (.tuple #[])∧∃A c,Blk w' g 167 #[.slice A 1 c]∧OwnS Ub8 5 w.heap.size (fun _=>False) w' (.slice A 1 c) [1]∧Mod (fun k=>k=g) w w':=by
 have HG:=zh h
 have hlt:=h.lt
 unfold ZqI
 obtain⟨W,hW⟩:=zn (w.alloc (.cells #[.int .i64 2,.int .u32 1,.slice none 0 0,.slice none 0 0] 86))
 have B3:=zh (show Blk W w.heap.size 86 #[.int .i64 2,.int .u32 1,.slice none 0 0,.slice none 0 0] by rw[hW];exact Blk.new w _ _)
 have E0:Ext w W:=by rw[hW];exact(Ext.refl _).alloc _
 have HW:=zh hW
 have hgn:g≠w.heap.size:=by omega
 clear h hW
 go_enter Tryz.func86,Tryz.ntmps86
 go_upto_region 1 with fail
 rw[←HW.out]
 clear HW
 refine zg (fun w'=>Mod (fun k=>k=g) W w') (Mod.of_ext (Ext.drew (Ext.refl _))) fun hHeld=>?_
 obtain⟨D,hD⟩:=zn (W.drew)
 have ED:Ext W D:=by rw[hD];exact(Ext.refl _).drew
 rw[←hD] at hHeld⊢
 clear hD
 refine zr 0 ?_
 refine zr 1 ?_
 refine zr 2 ?_
 refine zr 3 ?_
 refine zr 5 ?_
 (refine zu 6 (fun _ h=>(B3.out.mod h (by omega)).cell 1) ?_)
 refine zr 7 ?_
 have BD:=HG.out.ext (E0.trans ED)
 have kd:=BD.cell 0
 refine wpAnyH_ready (rs:=[4,8]) (by kernel_rfl) (by simp) ?_
 refine AllReadyH.cons rfl (fun K hK=>?_) (AllReadyH.cons rfl (fun K hK=>?_) AllReadyH.nil)
 ·go_simp
  refine zo hK (Mod.of_ext ED) fun hHeld=>?_
  clear hK K
  (refine za 8 (Mod.of_ext (ED.alloc _)) fun hHeld=>?_)
  refine zw 9 fun K hK=>?_
  refine ZaX (e:=Ub8) (base:=D.heap.size) (B:=fun _=>False) (A:=fun _=>False) rfl (.tmp 8) (.tmp 12) rfl Tryz.underlying43 ZaQ rfl (OwnS.nil _ _ _ _ _) rfl (RdY.singleB (e:=Ub8) (cs:=[.int .u8 1]) (d:=1) rfl (Blk.new D _ _)) rfl (fun _ _ h=>h.elim) (N:=1) rfl (by simp[maxLen]) (by omega) (by simp) ?_
  intro A9 c9 x9 o9 M9 D9
  have E9:Ext W x9:=Below.trans (ED.alloc _) (D9.mono ED.size)
  refine zo hK (Mod.of_ext E9) fun hHeld=>?_
  clear hK K
  refine zr 10 ?_
  refine zr 11 ?_
  have B9:=HG.out.ext (E0.trans E9)
  have kd9:=B9.cell 0
  have fd9:=B9.frozen 0
  have M12:Mod (fun k=>k=g) x9 _:=(Mod.refl _ x9).set1 (.slice A9 1 c9) (o:=0)
  have BF:=zh (B9.set_ 0 (.slice A9 1 c9))
  have OF:=zh ((o9.lower (base':=w.heap.size) (Nat.le_trans E0.size ED.size)).mod M12 (fun k hk he=>by have:=(o9.row k hk).1;have:=Nat.le_trans E0.size ED.size;omega) (fun _ _ hk _=>hk))
  have MF:=zh ((Mod.of_ext (S:=fun k=>k=g) (E0.trans E9)).trans M12)
  (refine za 12 ((Mod.of_ext E9).trans M12) fun hHeld=>?_)
  refine zd ?_
  go_end0
  exact⟨rfl,A9,c9,BF.out,OF.out,MF.out⟩
 ·go_simp
  refine zo hK (Mod.of_ext (ED.alloc _)) fun hHeld=>?_
  clear hK K
  have kd:=(BD.ext ((Ext.refl D).alloc (.cells #[.int .u8 (IntKind.u8.wrap 1)] 5))).cell 0
  (refine za 4 (Mod.of_ext (ED.alloc _)) fun hHeld=>?_)
  refine zw 9 fun K hK=>?_
  refine ZaX (e:=Ub8) (base:=D.heap.size) (B:=fun _=>False) (A:=fun _=>False) rfl (.tmp 8) (.tmp 12) rfl Tryz.underlying43 ZaQ rfl (OwnS.nil _ _ _ _ _) rfl (RdY.singleB (e:=Ub8) (cs:=[.int .u8 1]) (d:=1) rfl (Blk.new D _ _)) rfl (fun _ _ h=>h.elim) (N:=1) rfl (by simp[maxLen]) (by omega) (by simp) ?_
  intro A9 c9 x9 o9 M9 D9
  have E9:Ext W x9:=Below.trans (ED.alloc _) (D9.mono ED.size)
  refine zo hK (Mod.of_ext E9) fun hHeld=>?_
  clear hK K
  refine zr 10 ?_
  refine zr 11 ?_
  have B9:=HG.out.ext (E0.trans E9)
  have kd9:=B9.cell 0
  have fd9:=B9.frozen 0
  have M12:Mod (fun k=>k=g) x9 _:=(Mod.refl _ x9).set1 (.slice A9 1 c9) (o:=0)
  have BF:=zh (B9.set_ 0 (.slice A9 1 c9))
  have OF:=zh ((o9.lower (base':=w.heap.size) (Nat.le_trans E0.size ED.size)).mod M12 (fun k hk he=>by have:=(o9.row k hk).1;have:=Nat.le_trans E0.size ED.size;omega) (fun _ _ hk _=>hk))
  have MF:=zh ((Mod.of_ext (S:=fun k=>k=g) (E0.trans E9)).trans M12)
  (refine za 12 ((Mod.of_ext E9).trans M12) fun hHeld=>?_)
  refine zd ?_
  go_end0
  exact⟨rfl,A9,c9,BF.out,OF.out,MF.out⟩
theorem ZaE {D:Type}{e:Rep D}{T:TypeId}{base:Nat}{A B:Nat→Prop}{w:World}{ds ds2:List D}{v:Value}{P:Program}{z:Value}{bytes:Nat}{t:TypeId}
  {ops:Array Oper} {o:Oper} {a:Act} {K:Act→World→Prop} {Q:Exit→Act→World→Prop} {E:Prop} (hgd:o.guard=none) (s x:Operand)
  (ho:o.op= .call {callee:=.builtin .append,args:=#[s,x],argTypes:=#[t,t]})
  (ht:P.underlying t=some (.slice T)) (hi:(P.info? T).map (fun i=>(i.zero,i.size,i.bytes))=some (some z,e.size,bytes)) (hz:z.cells.size=e.size)
  (hown:OwnS e T base B w v ds) (hs:a.eval s=v) {y:Value} (hr:RdY e A w y ds2) (hx:a.eval x=y) (hA:∀k,k<w.heap.size→A k→B k∧v.ownBlock≠some k)
  {N:Nat} (hN:ds.length+ds2.length=N) (h63:N≤maxLen) (hbytes:N*bytes≤140737488355328) (hbase:base≤w.heap.size)
  (h:∀Ad c w',OwnS e T base B w' (.slice Ad N c) (ds++ds2)→Mod (fun k=>v.ownBlock=some k) w w'→((Value.slice Ad N c).ownBlock=v.ownBlock∨(Value.slice Ad N c).ownBlock=some w.heap.size)→K (a.put o.dst (.slice Ad N c)) w'):
  if Region.wanted o (yielded ops a.tmps)=true then Oper.wp P o a w K Q else E:=by
 have hw:Region.wanted o (yielded ops a.tmps)=true:=by simp[Region.wanted,hgd]
 rw[if_pos hw]
 subst hN
 obtain⟨us,hus,he⟩:=hown
 obtain⟨news,hn,hne⟩:=hr
 obtain⟨i0,hi0,hz0,hz1,hz2⟩:=info_parts hi
 refine Zbg w s x t ho base T i0 z e.size bytes ht hi0 hz0 hz1 hz2 hz e.pos v ds.length us hs hus y ds2.length news hx hn hne.one h63 hbytes hbase fun v' w' h1 h2 h3=>?_
 obtain⟨Ad,c,rfl⟩:=Zau h1
 exact h Ad c w' (OwnS.app he hne hA h1 h2 h3) (Zd2 h2) h3
abbrev wS (g:Nat)(v:Value):Nat→Prop:=fun k=>k=g∨v.ownBlock=some k
structure Wr (base g:Nat)(w:World)(v:Value)(out:List Int):Prop where
 blk:Blk w g 167 #[v]
 own:OwnS Ub8 5 base (fun _=>False) w v out
theorem Wr.ext {base g:Nat}{w w':World}{v:Value}{out:List Int}(h:Wr base g w v out)(E:Ext w w'):Wr base g w' v out:=⟨h.blk.ext E,h.own.ext E⟩
theorem Wr.ne {base g:Nat}{w:World}{v:Value}{out:List Int}(h:Wr base g w v out):v.ownBlock≠some g:=by
 obtain⟨us,ho,_⟩:=h.own
 exact Zal ho h.blk (by decide)
theorem Wr.lt {base g:Nat}{w:World}{v:Value}{out:List Int}(h:Wr base g w v out):∀k,wS g v k→k<w.heap.size:=by
 rintro k (rfl|hk)
 ·exact h.blk.lt
 ·exact(h.own.row k hk).2
def ZeI (base g:Nat)(v:Value)(out add:List Int)(w:World)(e:Ending)(w':World):Prop:=
 e= .returned (.tuple #[])∧∃v2,Wr base g w' v2 (out++add)∧Mod (wS g v) w w'∧(∀k,v2.ownBlock=some k→v.ownBlock=some k∨w.heap.size≤k)
theorem ZeI.trans {base g:Nat}{v v2:Value}{out a b:List Int}{w w1 w2:World}{e:Ending}(h2:Mod (wS g v) w w1)(h3:∀k,v2.ownBlock=some k→v.ownBlock=some k∨w.heap.size≤k)(h:ZeI base g v2 (out++a) b w1 e w2):ZeI base g v out (a++b) w e w2:=by
 obtain⟨he,v4,h5,h6,h7⟩:=h
 refine⟨he,v4,by rw[←List.append_assoc];exact h5,?_,fun k hk=>?_⟩
 ·refine⟨h6.os.trans h2.os,h6.tape.trans h2.tape,h6.output.trans h2.output,Nat.le_trans h2.size h6.size,fun k hk hn=>?_⟩
  refine(h6.block k (Nat.lt_of_lt_of_le hk h2.size) ?_).trans (h2.block k hk hn)
  rintro(rfl|h8)
  ·exact hn (.inl rfl)
  ·rcases h3 k h8 with h9|h9
   ·exact hn (.inr h9)
   ·omega
 ·rcases h7 k hk with h8|h8
  ·exact h3 k h8
  ·exact .inr (Nat.le_trans h2.size h8)
theorem ZfT {base g:Nat}{w x:World}{v:Value}{out add:List Int}{A:Option Addr}{N c:Nat}{wm:World}(h:Wr base g w v out)(E:Ext w wm)(o9:OwnS Ub8 5 base (fun _=>False) x (.slice A N c) (out++add))(M9:Mod (fun k=>v.ownBlock=some k) wm x)(X9:(Value.slice A N c).ownBlock=v.ownBlock∨(Value.slice A N c).ownBlock=some wm.heap.size):
  Blk x g 167 #[v]∧Mod (wS g v) wm x∧Mod (wS g v) x (x.setCell ⟨g,0,none⟩ (.slice A N c))∧ZeI base g v out add w (.returned (.tuple #[])) (x.setCell ⟨g,0,none⟩ (.slice A N c)):=by
 have B9:Blk x g 167 #[v]:=(h.blk.ext E).mod M9 h.ne
 have hne:(Value.slice A N c).ownBlock≠some g:=by
  obtain⟨us,ho,_⟩:=o9
  exact Zal ho B9 (by decide)
 have MW:Mod (wS g v) wm x:=M9.mono fun _ _ hk=>.inr hk
 have MS:Mod (wS g v) x (x.setCell ⟨g,0,none⟩ (.slice A N c)):=(Mod.refl _ _).set_ (.inr (.inl rfl)) _
 refine⟨B9,MW,MS,rfl,.slice A N c,⟨?_,?_⟩,((Mod.of_ext E).trans MW).trans MS,fun k hk=>?_⟩
 ·exact B9.set_ 0 _
 ·exact o9.mod ((Mod.refl (fun k=>k=g) _).set1 _) (fun k hk he=>hne (by rw[hk,he])) (fun _ _ hk=>hk.elim)
 ·rcases X9 with h6|h6
  ·rw[h6] at hk;exact .inl hk
  ·rw[h6,Option.some.injEq] at hk;right;rw[←hk];exact E.size
theorem Zmd (base g:Nat)(v:Value)(out:List Int)(k n:Int)(vt vl:Value)(w:World)(h:Wr base g w v out)(hb:base≤w.heap.size)(hn:0≤n∧n≤255)(hl:out.length≤100000):
  Calls Tryz.prog 86 #[.pointer (some ⟨g,0,none⟩),.agg #[.int .i64 k,.int .u32 n,vt,vl]] w (ZeI base g v out [n] w):=by
 have hwr:IntKind.u8.wrap n=n:=by unfold IntKind.wrap;simp[IntKind.bits,IntKind.signed];omega
 have HWR:=zh hwr
 have HTOT:=zh (show out.length+1≤1000000 by omega)
 obtain⟨A0,c0,rfl,hc1,hc2⟩:=h.own.shape
 have H:=zh h
 have HBASE:=zh hb
 obtain⟨W,hW⟩:=zn (w.alloc (.cells #[.int .i64 k,.int .u32 n,vt,vl] 86))
 have B3:=zh (show Blk W w.heap.size 86 #[.int .i64 k,.int .u32 n,vt,vl] by rw[hW];exact Blk.new w _ _)
 have E0:Ext w W:=by rw[hW];exact(Ext.refl _).alloc _
 have HW:=zh hW
 have HNB:=zh (show ¬wS g (.slice A0 out.length c0) w.heap.size from fun hh=>Nat.lt_irrefl _ (h.lt _ hh))
 clear h hW hl hb hc1 hc2
 clear hwr
 go_enter Tryz.func86,Tryz.ntmps86
 go_upto_region 1 with fail
 rw[←HW.out]
 clear HW
 refine zg (fun w'=>Mod (wS g (.slice A0 out.length c0)) W w') (Mod.of_ext (Ext.drew (Ext.refl _))) fun hHeld=>?_
 obtain⟨D,hD⟩:=zn (W.drew)
 have ED:Ext W D:=by rw[hD];exact(Ext.refl _).drew
 rw[←hD] at hHeld⊢
 clear hD
 have BD:=H.out.blk.ext (E0.trans ED)
 have kd:=BD.cell 0
 refine zr 0 ?_
 refine zr 1 ?_
 refine zr 2 ?_
 refine zr 3 ?_
 refine zr 5 ?_
 (refine zu 6 (fun _ h=>(B3.out.mod h HNB.out).cell 1) ?_)
 refine zr 7 ?_
 refine wpAnyH_ready (rs:=[4,8]) (by kernel_rfl) (by simp) ?_
 refine AllReadyH.cons rfl (fun K hK=>?_) (AllReadyH.cons rfl (fun K hK=>?_) AllReadyH.nil)
 ·go_simp
  refine zo hK (Mod.of_ext ED) fun hHeld=>?_
  clear hK K
  (refine za 8 (Mod.of_ext (ED.alloc _)) fun hHeld=>?_)
  refine zw 9 fun K hK=>?_
  have EM:=(Ext.refl D).alloc (.cells #[.int .u8 (IntKind.u8.wrap n)] 5)
  refine ZaE (e:=Ub8) (base:=base) (B:=fun _=>False) (A:=fun _=>False) rfl (.tmp 8) (.tmp 12) rfl Tryz.underlying43 ZaQ rfl (H.out.own.ext (E0.trans (ED.trans EM))) rfl (RdY.singleB (e:=Ub8) (cs:=[.int .u8 (IntKind.u8.wrap n)]) (d:=IntKind.u8.wrap n) rfl (Blk.new D _ _)) rfl (fun _ _ h=>h.elim) (N:=out.length+1) rfl (by have:=HTOT.out;unfold maxLen;omega) (by have:=HTOT.out;omega) (by have:=HBASE.out;have:=(E0.trans (ED.trans EM)).size;omega) ?_
  intro A9 c9 x9 o9 M9 X9
  obtain⟨B9,M10,M11,Z9⟩:=ZfT H.out (E0.trans (ED.trans EM)) o9 M9 X9
  have HZ:=zh Z9
  have ME:=(Mod.of_ext (S:=wS g (.slice A0 out.length c0)) (ED.trans EM)).trans M10
  refine zo hK ME fun hHeld=>?_
  clear hK K
  refine zr 10 ?_
  refine zr 11 ?_
  have kd9:=B9.cell 0
  have fd9:=B9.frozen 0
  clear Z9 B9 M10 M9 X9 o9
  (refine za 12 (ME.trans M11) fun hHeld=>?_)
  refine zd ?_
  go_end0
  rw[HWR.out] at HZ
  exact HZ.out
 ·go_simp
  refine zo hK (Mod.of_ext (ED.alloc _)) fun hHeld=>?_
  clear hK K
  have kd:=(BD.ext ((Ext.refl D).alloc (.cells #[.int .u8 (IntKind.u8.wrap n)] 5))).cell 0
  (refine za 4 (Mod.of_ext (ED.alloc _)) fun hHeld=>?_)
  refine zw 9 fun K hK=>?_
  have EM:=(Ext.refl D).alloc (.cells #[.int .u8 (IntKind.u8.wrap n)] 5)
  refine ZaE (e:=Ub8) (base:=base) (B:=fun _=>False) (A:=fun _=>False) rfl (.tmp 8) (.tmp 12) rfl Tryz.underlying43 ZaQ rfl (H.out.own.ext (E0.trans (ED.trans EM))) rfl (RdY.singleB (e:=Ub8) (cs:=[.int .u8 (IntKind.u8.wrap n)]) (d:=IntKind.u8.wrap n) rfl (Blk.new D _ _)) rfl (fun _ _ h=>h.elim) (N:=out.length+1) rfl (by have:=HTOT.out;unfold maxLen;omega) (by have:=HTOT.out;omega) (by have:=HBASE.out;have:=(E0.trans (ED.trans EM)).size;omega) ?_
  intro A9 c9 x9 o9 M9 X9
  obtain⟨B9,M10,M11,Z9⟩:=ZfT H.out (E0.trans (ED.trans EM)) o9 M9 X9
  have HZ:=zh Z9
  have ME:=(Mod.of_ext (S:=wS g (.slice A0 out.length c0)) (ED.trans EM)).trans M10
  refine zo hK ME fun hHeld=>?_
  clear hK K
  refine zr 10 ?_
  refine zr 11 ?_
  have kd9:=B9.cell 0
  have fd9:=B9.frozen 0
  clear Z9 B9 M10 M9 X9 o9
  (refine za 12 (ME.trans M11) fun hHeld=>?_)
  refine zd ?_
  go_end0
  rw[HWR.out] at HZ
  exact HZ.out
theorem ZfU (base g:Nat)(v:Value)(out:List Int)(k n:Int)(vt vl:Value)(text:List Int)(w:World)(h:Wr base g w v out)(hb:base≤w.heap.size)(ht:RI .u8 w vt text)(hl:out.length≤100000)(htl:text.length≤100000):
  Calls Tryz.prog 100 #[.pointer (some ⟨g,0,none⟩),.agg #[.int .i64 k,.int .u32 n,vt,vl]] w (ZeI base g v out text w):=by
 have HT:=zh ht
 have HTOT:=zh (show out.length+text.length≤1000000 by omega)
 clear ht htl
 obtain⟨A0,c0,rfl,hc1,hc2⟩:=h.own.shape
 have H:=zh h
 have HBASE:=zh hb
 obtain⟨W,hW⟩:=zn (w.alloc (.cells #[.int .i64 k,.int .u32 n,vt,vl] 86))
 have B3:=zh (show Blk W w.heap.size 86 #[.int .i64 k,.int .u32 n,vt,vl] by rw[hW];exact Blk.new w _ _)
 have E0:Ext w W:=by rw[hW];exact(Ext.refl _).alloc _
 have HW:=zh hW
 have HNB:=zh (show ¬wS g (.slice A0 out.length c0) w.heap.size from fun hh=>Nat.lt_irrefl _ (h.lt _ hh))
 clear h hW hl hb hc1 hc2
 go_enter Tryz.func100,Tryz.ntmps100
 go_upto_region 1 with fail
 rw[←HW.out]
 clear HW
 refine zg (fun w'=>Mod (wS g (.slice A0 out.length c0)) W w') (Mod.of_ext (Ext.drew (Ext.refl _))) fun hHeld=>?_
 obtain⟨D,hD⟩:=zn (W.drew)
 have ED:Ext W D:=by rw[hD];exact(Ext.refl _).drew
 rw[←hD] at hHeld⊢
 clear hD
 have BD:=H.out.blk.ext (E0.trans ED)
 have kd:=BD.cell 0
 refine zr 0 ?_
 refine zr 1 ?_
 refine zr 2 ?_
 refine zr 3 ?_
 refine zr 5 ?_
 (refine zu 6 (fun _ h=>(B3.out.mod h HNB.out).cell 2) ?_)
 (refine za 4 (Mod.of_ext ED) fun hHeld=>?_)
 refine zw 7 fun K hK=>?_
 have EM:=Ext.refl D
 refine ZaE (e:=Ub8) (base:=base) (B:=fun _=>False) (A:=fun _=>False) rfl (.tmp 8) (.tmp 10) rfl Tryz.underlying43 ZaQ rfl (H.out.own.ext (E0.trans (ED.trans EM))) rfl (RI.y (RdN.ext HT.out (E0.trans ED))) rfl (fun _ _ h=>h.elim) (N:=out.length+text.length) rfl (by have:=HTOT.out;unfold maxLen;omega) (by have:=HTOT.out;omega) (by have:=HBASE.out;have:=(E0.trans (ED.trans EM)).size;omega) ?_
 intro A9 c9 x9 o9 M9 X9
 obtain⟨B9,M10,M11,Z9⟩:=ZfT H.out (E0.trans (ED.trans EM)) o9 M9 X9
 have HZ:=zh Z9
 have ME:=(Mod.of_ext (S:=wS g (.slice A0 out.length c0)) (ED.trans EM)).trans M10
 refine zo hK ME fun hHeld=>?_
 clear hK K
 refine zr 8 ?_
 refine zr 9 ?_
 have kd9:=B9.cell 0
 have fd9:=B9.frozen 0
 clear Z9 B9 M10 M9 X9 o9
 (refine za 10 (ME.trans M11) fun hHeld=>?_)
 refine zd ?_
 go_end0
 exact HZ.out
theorem ZhS (base g:Nat)(v:Value)(out:List Int)(k n:Int)(vt vl:Value)(w:World)(h:Wr base g w v out)(hb:base≤w.heap.size)(hn:0≤n∧n≤4294967295)(hl:out.length≤100000):
  Calls Tryz.prog 91 #[.pointer (some ⟨g,0,none⟩),.agg #[.int .i64 k,.int .u32 n,vt,vl]] w (ZeI base g v out (Fr.four n) w):=by
 have hf: [IntKind.u8.wrap (n/ 16777216),IntKind.u8.wrap (n/ 65536),IntKind.u8.wrap (n/ 256),IntKind.u8.wrap n]=Fr.four n:=by
  have hw:∀m:Int,IntKind.u8.wrap m=m % 256:=fun m=>by unfold IntKind.wrap;simp[IntKind.bits,IntKind.signed]
  unfold Fr.four
  rw[hw,hw,hw,hw,show n/ 16777216 % 256=n/ 16777216 by omega]
 have HF:=zh hf
 have HTOT:=zh (show out.length+4≤1000000 by omega)
 clear hf hn
 obtain⟨A0,c0,rfl,hc1,hc2⟩:=h.own.shape
 have H:=zh h
 have HBASE:=zh hb
 obtain⟨W,hW⟩:=zn (w.alloc (.cells #[.int .i64 k,.int .u32 n,vt,vl] 86))
 have B3:=zh (show Blk W w.heap.size 86 #[.int .i64 k,.int .u32 n,vt,vl] by rw[hW];exact Blk.new w _ _)
 have E0:Ext w W:=by rw[hW];exact(Ext.refl _).alloc _
 have HW:=zh hW
 have HNB:=zh (show ¬wS g (.slice A0 out.length c0) w.heap.size from fun hh=>Nat.lt_irrefl _ (h.lt _ hh))
 clear h hW hl hb hc1 hc2
 go_enter Tryz.func91,Tryz.ntmps91
 go_upto_region 1 with fail
 rw[←HW.out]
 clear HW
 refine zg (fun w'=>Mod (wS g (.slice A0 out.length c0)) W w') (Mod.of_ext (Ext.drew (Ext.refl _))) fun hHeld=>?_
 obtain⟨D,hD⟩:=zn (W.drew)
 have ED:Ext W D:=by rw[hD];exact(Ext.refl _).drew
 rw[←hD] at hHeld⊢
 clear hD
 have BD:=H.out.blk.ext (E0.trans ED)
 have kd:=BD.cell 0
 refine zr 0 ?_
 refine zr 1 ?_
 refine zr 2 ?_
 refine zr 3 ?_
 refine zr 5 ?_
 (refine zu 6 (fun _ h=>(B3.out.mod h HNB.out).cell 1) ?_)
 refine zr 7 ?_
 refine zr 8 ?_
 refine zr 9 ?_
 (refine zu 10 (fun _ h=>(B3.out.mod h HNB.out).cell 1) ?_)
 refine zr 11 ?_
 refine zr 12 ?_
 refine zr 13 ?_
 (refine zu 14 (fun _ h=>(B3.out.mod h HNB.out).cell 1) ?_)
 refine zr 15 ?_
 refine zr 16 ?_
 refine zr 17 ?_
 (refine zu 18 (fun _ h=>(B3.out.mod h HNB.out).cell 1) ?_)
 refine zr 19 ?_
 refine wpAnyH_ready (rs:=[4,20]) (by kernel_rfl) (by simp) ?_
 refine AllReadyH.cons rfl (fun K hK=>?_) (AllReadyH.cons rfl (fun K hK=>?_) AllReadyH.nil)
 ·go_simp
  refine zo hK (Mod.of_ext ED) fun hHeld=>?_
  clear hK K
  (refine za 20 (Mod.of_ext (ED.alloc _)) fun hHeld=>?_)
  refine zw 21 fun K hK=>?_
  have EM:=(Ext.refl D).alloc (.cells #[.int .u8 (IntKind.u8.wrap (n/ 16777216)),.int .u8 (IntKind.u8.wrap (n/ 65536)),.int .u8 (IntKind.u8.wrap (n/ 256)),.int .u8 (IntKind.u8.wrap n)] 5)
  refine ZaE (e:=Ub8) (base:=base) (B:=fun _=>False) (A:=fun _=>False) rfl (.tmp 8) (.tmp 24) rfl Tryz.underlying43 ZaQ rfl (H.out.own.ext (E0.trans (ED.trans EM))) rfl (RI.y (RI.lit .u8 [IntKind.u8.wrap (n/ 16777216),IntKind.u8.wrap (n/ 65536),IntKind.u8.wrap (n/ 256),IntKind.u8.wrap n] 5 rfl (by simp))) rfl (fun _ _ h=>h.elim) (N:=out.length+4) rfl (by have:=HTOT.out;unfold maxLen;omega) (by have:=HTOT.out;omega) (by have:=HBASE.out;have:=(E0.trans (ED.trans EM)).size;omega) ?_
  intro A9 c9 x9 o9 M9 X9
  obtain⟨B9,M10,M11,Z9⟩:=ZfT H.out (E0.trans (ED.trans EM)) o9 M9 X9
  have HZ:=zh Z9
  have ME:=(Mod.of_ext (S:=wS g (.slice A0 out.length c0)) (ED.trans EM)).trans M10
  refine zo hK ME fun hHeld=>?_
  clear hK K
  refine zr 22 ?_
  refine zr 23 ?_
  have kd9:=B9.cell 0
  have fd9:=B9.frozen 0
  clear Z9 B9 M10 M9 X9 o9
  (refine za 24 (ME.trans M11) fun hHeld=>?_)
  refine zd ?_
  go_end0
  rw[HF.out] at HZ
  exact HZ.out
 ·go_simp
  refine zo hK (Mod.of_ext (ED.alloc _)) fun hHeld=>?_
  clear hK K
  have kd:=(BD.ext ((Ext.refl D).alloc (.cells #[.int .u8 (IntKind.u8.wrap (n/ 16777216)),.int .u8 (IntKind.u8.wrap (n/ 65536)),.int .u8 (IntKind.u8.wrap (n/ 256)),.int .u8 (IntKind.u8.wrap n)] 5))).cell 0
  (refine za 4 (Mod.of_ext (ED.alloc _)) fun hHeld=>?_)
  refine zw 21 fun K hK=>?_
  have EM:=(Ext.refl D).alloc (.cells #[.int .u8 (IntKind.u8.wrap (n/ 16777216)),.int .u8 (IntKind.u8.wrap (n/ 65536)),.int .u8 (IntKind.u8.wrap (n/ 256)),.int .u8 (IntKind.u8.wrap n)] 5)
  refine ZaE (e:=Ub8) (base:=base) (B:=fun _=>False) (A:=fun _=>False) rfl (.tmp 8) (.tmp 24) rfl Tryz.underlying43 ZaQ rfl (H.out.own.ext (E0.trans (ED.trans EM))) rfl (RI.y (RI.lit .u8 [IntKind.u8.wrap (n/ 16777216),IntKind.u8.wrap (n/ 65536),IntKind.u8.wrap (n/ 256),IntKind.u8.wrap n] 5 rfl (by simp))) rfl (fun _ _ h=>h.elim) (N:=out.length+4) rfl (by have:=HTOT.out;unfold maxLen;omega) (by have:=HTOT.out;omega) (by have:=HBASE.out;have:=(E0.trans (ED.trans EM)).size;omega) ?_
  intro A9 c9 x9 o9 M9 X9
  obtain⟨B9,M10,M11,Z9⟩:=ZfT H.out (E0.trans (ED.trans EM)) o9 M9 X9
  have HZ:=zh Z9
  have ME:=(Mod.of_ext (S:=wS g (.slice A0 out.length c0)) (ED.trans EM)).trans M10
  refine zo hK ME fun hHeld=>?_
  clear hK K
  refine zr 22 ?_
  refine zr 23 ?_
  have kd9:=B9.cell 0
  have fd9:=B9.frozen 0
  clear Z9 B9 M10 M9 X9 o9
  (refine za 24 (ME.trans M11) fun hHeld=>?_)
  refine zd ?_
  go_end0
  rw[HF.out] at HZ
  exact HZ.out
def fltF (k n:Int)(t:List Int):Int:=if k=1 then(if 255<n then 5 else 0) else if k=2 then(if 1<n then 5 else 0) else if k=3 then 0 else if k=4 then(if 32768<t.length then 6 else 0) else(if 33792<t.length then 6 else 0)
def encF (k n:Int)(t:List Int):List Int:=if k=1∨k=2 then[n] else if k=3 then Fr.four n else if k=4 then Fr.four t.length++t else t
theorem Zj2 (base g:Nat)(v:Value)(out:List Int)(k n:Int)(vt vl:Value)(text:List Int)(w:World)(h:Wr base g w v out)(hb:base≤w.heap.size)(ht:RI .u8 w vt text)(hl:out.length≤90000)(htl:text.length≤100000)(hw:0<text.length→∀j,vt.ownBlock=some j→¬wS g v j):
  Calls Tryz.prog 94 #[.pointer (some ⟨g,0,none⟩),.agg #[.int .i64 k,.int .u32 n,vt,vl]] w (ZeI base g v out (Fr.four text.length++text) w):=by
 have HNB:=zh (show ¬wS g v w.heap.size from fun hh=>Nat.lt_irrefl _ (h.lt _ hh))
 obtain⟨At,ct,rfl,hc1,hc2⟩:=ht.shape
 have H:=zh h
 have HT:=zh ht
 obtain⟨L,hL⟩:=zm (text.length)
 have HTX:=zh hL
 have HTW:=zh hw
 have HBS:=zh hb
 have hwr:IntKind.u32.wrap (L:Int)=(L:Int):=by unfold IntKind.wrap;simp[IntKind.bits,IntKind.signed];omega
 have B3:=zh (Blk.new w 86 #[.int .i64 k,.int .u32 n,.slice At L ct,vl])
 have HN:=zh (fun w1 (h1:Wr base g w1 v out) (hb1:base≤w1.heap.size)=>ZhS base g v out 0 L (.slice none 0 0) (.slice none 0 0) w1 h1 hb1 (by omega) (by omega))
 rw[hL] at hc1⊢
 clear h ht hL hw hb
 go_enter Tryz.func94,Tryz.ntmps94
 go_wp2_with fail
 refine(HN.out _ (H.out.ext zX) (by have:=HBS.out;simp;omega)).mono ?_
 rintro e w1 ⟨rfl,v1,R1,M1,X1⟩
 have B4:=B3.out.mod M1 HNB.out
 have k0:=B4.cell 0
 have k1:=B4.cell 1
 have k2:=B4.cell 2
 have k3:=B4.cell 3
 have HR1:=zh R1
 have E0:Ext w (w.alloc (.cells #[.int .i64 k,.int .u32 n,.slice At L ct,vl] 86)):=(Ext.refl _).alloc _
 have HM1:=zh ((Mod.of_ext E0).trans M1)
 have HX1:=zh (show ∀j,v1.ownBlock=some j→v.ownBlock=some j∨w.heap.size≤j from fun j hj=>(X1 j hj).imp id (fun h9=>Nat.le_trans E0.size h9))
 have HT1:=zh (show RI .u8 w1 (.slice At L ct) text by
  have h9:=HT.out.keepB (fun j hj h0 hs=>HM1.out.block j hj (HTW.out h0 j hs))
  unfold RI at h9⊢
  rw[HTX.out] at h9⊢
  exact h9)
 have HZ1:=zh (show base≤w1.heap.size from Nat.le_trans HBS.out (Nat.le_trans E0.size M1.size))
 clear R1 M1 X1 B4 E0
 go_wp2_with fail
 refine(ZfU base g v1 (out++Fr.four L) k n (.slice At L ct) vl text _ HR1.out HZ1.out (HT1.out) (by simp[Fr.four];omega) htl).mono ?_
 rintro e w2 ⟨rfl,v2,R2,M2,X2⟩
 have HZ:=zh (ZeI.trans HM1.out HX1.out (show ZeI base g v1 (out++Fr.four L) text w1 (.returned (.tuple #[])) w2 from⟨rfl,v2,R2,M2,X2⟩))
 clear R2 M2 X2
 go_wp2
 go_end0
 exact HZ.out
theorem ZhT (n m:Int)(w:World):Calls Tryz.prog 172 #[.int .u32 n,.int .u32 m] w fun e w'=>e= .returned (.int .i64 (if m<n then 5 else 0))∧Ext w w':=by
 by_cases h:m<n
 ·rw[if_pos h]
  go_enter Tryz.func172,Tryz.ntmps172
  go_wp2
  go_ret
  exact⟨rfl,zX⟩
 ·rw[if_neg h]
  go_enter Tryz.func172,Tryz.ntmps172
  go_wp2
  go_ret
  exact⟨rfl,zX⟩
theorem Zok (n m:Int)(w:World):Calls Tryz.prog 174 #[.int .i64 n,.int .i64 m] w fun e w'=>e= .returned (.int .i64 (if m<n then 6 else 0))∧Ext w w':=by
 by_cases h:m<n
 ·rw[if_pos h]
  go_enter Tryz.func174,Tryz.ntmps174
  go_wp2
  go_ret
  exact⟨rfl,zX⟩
 ·rw[if_neg h]
  go_enter Tryz.func174,Tryz.ntmps174
  go_wp2
  go_ret
  exact⟨rfl,zX⟩
theorem ZiH (k n:Int)(vt vl:Value)(w:World):Calls Tryz.prog 85 #[.agg #[.int .i64 k,.int .u32 n,vt,vl]] w fun e w'=>e= .returned (.int .i64 (if 255<n then 5 else 0))∧Ext w w':=by
 have HW:=zh (fun w'=>ZhT n 255 w')
 obtain⟨z,hz⟩:∃z:Int,(if 255<n then 5 else 0)=z:=⟨_,rfl⟩
 rw[hz] at HW⊢
 clear hz
 go_enter Tryz.func85,Tryz.ntmps85
 go_wp2_with fail
 refine(HW.out _).mono ?_
 rintro e w1 ⟨rfl,E1⟩
 go_wp2
 go_ret
 exact⟨rfl,zX⟩
theorem Zj3 (k n:Int)(vt vl:Value)(w:World):Calls Tryz.prog 88 #[.agg #[.int .i64 k,.int .u32 n,vt,vl]] w fun e w'=>e= .returned (.int .i64 (if 1<n then 5 else 0))∧Ext w w':=by
 have HW:=zh (fun w'=>ZhT n 1 w')
 obtain⟨z,hz⟩:∃z:Int,(if 1<n then 5 else 0)=z:=⟨_,rfl⟩
 rw[hz] at HW⊢
 clear hz
 go_enter Tryz.func88,Tryz.ntmps88
 go_wp2_with fail
 refine(HW.out _).mono ?_
 rintro e w1 ⟨rfl,E1⟩
 go_wp2
 go_ret
 exact⟨rfl,zX⟩
theorem ZoN (k n:Int)(vt vl:Value)(w:World):Calls Tryz.prog 90 #[.agg #[.int .i64 k,.int .u32 n,vt,vl]] w fun e w'=>e= .returned (.int .i64 0)∧Ext w w':=by
 go_enter Tryz.func90,Tryz.ntmps90
 go_wp2
 go_ret
 exact⟨rfl,zX⟩
theorem Zj4 (k n:Int)(A:Option Addr)(L c:Nat)(vl:Value)(w:World):Calls Tryz.prog 93 #[.agg #[.int .i64 k,.int .u32 n,.slice A L c,vl]] w fun e w'=>e= .returned (.int .i64 (if 32768<L then 6 else 0))∧Ext w w':=by
 have HW:=zh (fun w'=>Zok L 32768 w')
 obtain⟨z,hz⟩:∃z:Int,(if(32768:Int)<(L:Int) then(6:Int) else 0)=z:=⟨_,rfl⟩
 have hz2:(if 32768<L then(6:Int) else 0)=z:=by
  rw[←hz]
  by_cases h:32768<L
  ·rw[if_pos h,if_pos (by omega)]
  ·rw[if_neg h,if_neg (by omega)]
 rw[hz] at HW
 rw[hz2]
 clear hz hz2
 go_enter Tryz.func93,Tryz.ntmps93
 go_wp2_with fail
 refine(HW.out _).mono ?_
 rintro e w1 ⟨rfl,E1⟩
 go_wp2
 go_ret
 exact⟨rfl,zX⟩
theorem ZfV (k n:Int)(A:Option Addr)(L c:Nat)(vl:Value)(w:World):Calls Tryz.prog 99 #[.agg #[.int .i64 k,.int .u32 n,.slice A L c,vl]] w fun e w'=>e= .returned (.int .i64 (if 33792<L then 6 else 0))∧Ext w w':=by
 have HW:=zh (fun w'=>Zok L 33792 w')
 obtain⟨z,hz⟩:∃z:Int,(if(33792:Int)<(L:Int) then(6:Int) else 0)=z:=⟨_,rfl⟩
 have hz2:(if 33792<L then(6:Int) else 0)=z:=by
  rw[←hz]
  by_cases h:33792<L
  ·rw[if_pos h,if_pos (by omega)]
  ·rw[if_neg h,if_neg (by omega)]
 rw[hz] at HW
 rw[hz2]
 clear hz hz2
 go_enter Tryz.func99,Tryz.ntmps99
 go_wp2_with fail
 refine(HW.out _).mono ?_
 rintro e w1 ⟨rfl,E1⟩
 go_wp2
 go_ret
 exact⟨rfl,zX⟩
structure Fd where
 k:Int
 n:Int
 t:List Int
def FdR:Rep Fd where
 size:=4
 pos:=by decide
 rel:=fun A w cs f=>∃vt,cs=[.int .i64 f.k,.int .u32 f.n,vt,.slice none 0 0]∧RdS Ub8 A w vt f.t
 len:=fun⟨vt,h,_⟩=>by rw[h];rfl
 one:=fun⟨vt,h,h2⟩ u hu=>by
  obtain⟨Ad,c,rfl,_⟩:=h2.shape
  rw[h] at hu
  simp at hu
  rcases hu with rfl|rfl|rfl|rfl<;>rfl
 keep:=fun⟨vt,h,h2⟩ hk=>⟨vt,h,h2.keep hk⟩
theorem Zfh {A:Nat→Prop}{w:World}{Ad:Option Addr}{n c j:Nat}{fs:List Fd}(h:RdY FdR A w (.slice Ad n c) fs)(hj:j<n):
  ∃b off At ct f,Ad=some ⟨b,off,none⟩∧w.cell? ⟨b,off+j*4,none⟩=some (.int .i64 f.k)∧w.cell? ⟨b,off+j*4+1,none⟩=some (.int .u32 f.n)∧w.cell? ⟨b,off+j*4+2,none⟩=some (.slice At f.t.length ct)∧
   w.cell? ⟨b,off+j*4+3,none⟩=some (.slice none 0 0)∧Hid (fs[j]?=some f)∧Hid (RdS Ub8 A w (.slice At f.t.length ct) f.t):=by
 obtain⟨Ad',c',hv,_⟩:=h.shape
 simp only[Value.slice.injEq] at hv
 obtain⟨rfl,rfl,rfl⟩:=hv
 obtain⟨b,off,c,d,cs,hv,hd,⟨vt,rfl,hr⟩,hl,hc⟩:=h.cells hj
 simp only[Value.slice.injEq] at hv
 obtain⟨At,ct,rfl,-,-⟩:=hr.shape
 exact⟨b,off,At,ct,d,hv.1,hc 0 _ rfl,hc 1 _ rfl,hc 2 _ rfl,hc 3 _ rfl,hd,zh hr⟩
theorem Zb7 {A:Nat→Prop}{w:World}{a:Option Addr}{n c:Nat}{fs:List Fd}(h:RdY FdR A w (.slice a n c) fs)(hn:0<n):
  ∃b of,a=some ⟨b,of,none⟩∧b<w.heap.size∧∀j k x t,j<n→fs[j]?=some (⟨k,x,t⟩:Fd)→w.cell? ⟨b,of+(4*j+1),none⟩=some (.int .u32 x)∧
   ∃At T ct,T=t.length∧w.cell? ⟨b,of+(4*j+2),none⟩=some (.slice At T ct)∧Hid (RdS Ub8 A w (.slice At T ct) t):=by
 obtain⟨b,of,At,ct,f,rfl,-,hd,-⟩:=Zfh h (j:=0) hn
 refine⟨b,of,rfl,World.block_lt_of_cell? w _ hd,fun j k x t hj hf=>?_⟩
 obtain⟨b',of',At',ct',f',hA,-,d1,d2,-,hd',ht⟩:=Zfh h (j:=j) hj
 simp only[Option.some.injEq,Addr.mk.injEq] at hA
 obtain⟨rfl,rfl,-⟩:=hA
 obtain rfl:f'=⟨k,x,t⟩:=by have h9:=hd'.out;rw[hf] at h9;exact(Option.some.inj h9).symm
 rw[Nat.mul_comm] at d1 d2
 exact⟨d1,At',_,ct',rfl,d2,ht⟩
theorem zs {P:Program}{ops:Array Oper}{Q:Exit→Act→World→Prop}{md:Region.Mode}{fuel:Nat}{listed:Array Bool}{a a' a1:Act}{w W:World}{oi:Oper}{g:Nat}{T:TypeId}{cs cs':Array Value}{u x:Value}(i o:Nat)(HB:Hid (Blk w g T cs))(HM:Hid (Mod (fun j=>j=g) W w))
  (h:∀w',Hid (Blk w' g T cs')→Hid (Mod (fun j=>j=g) W w')→Mod (fun j=>j=g) W w'→wpAnyH P md ops Q (fun w'=>Mod (fun j=>j=g) W w') fuel (listed.setIfInBounds i true) a' w') (hi:ops[i]?=some oi:=by exact rfl) (hx:cs[o]?=some x:=by exact rfl)
  (hy:w.cell? ⟨g,o,none⟩=some x→w.frozen? ⟨g,o,none⟩=false→∀K:Act→World→Prop,K a1 (w.setCell ⟨g,o,none⟩ u)→(if Region.wanted oi (yielded ops a.tmps)=true then Oper.wp P oi a w K Q else K (a.put oi.dst undef) w):=by(intro q9 f9 K hK;go_simp;exact hK))
  (hcs:cs.setIfInBounds o u=cs':=by((try simp only[List.setIfInBounds_toArray,List.set_cons_succ,List.set_cons_zero]);first|done|rfl)) (ha:a1=a':=by((try simp only[zP]);first|done|rfl)) (hr:Region.ready md ops listed=[i]:=by kernel_rfl):wpAnyH P md ops Q (fun w'=>Mod (fun j=>j=g) W w') (fuel+1) listed a w:=by
 subst hcs ha
 have M:=HM.out.set1 (o:=o) u
 exact wpAnyH_ready hr (by simp) (AllReadyH.cons hi (fun K hK=>hy ((HB.out.cell o).trans hx) (HB.out.frozen o) K (hK.out a1 _ M fun _=>h _ (zh (HB.out.set_ o u)) (zh M) M)) AllReadyH.nil)
def Zdw (ks:List Int):Prop:=∀i x,ks[i]?=some x→(1≤x∧x≤6)∧(x=6→i+1=ks.length)
theorem Zj5 (k:Int)(w:World)(h:1≤k∧k≤6):Calls Tryz.prog 84 #[.int .i64 k] w fun e w'=>e= .returned (.bool true)∧Ext w w':=by
 obtain⟨h1,h2⟩:=h
 go_enter Tryz.func84,Tryz.ntmps84
 go_wp2
 go_ret
 exact⟨rfl,zX⟩
theorem Zj6 (v:Value)(ks:List Int)(w:World)(h:RI .i64 w v ks)(hr:Zdw ks):Calls Tryz.prog 49 #[v] w fun e w'=>e= .returned (.bool true)∧Ext w w':=by
 obtain⟨A,c,rfl,hc1,hc2⟩:=h.shape
 obtain⟨N,hN⟩:=zm (ks.length)
 have HN:=zh hN
 have H:=zh (show RdN w 1 (.slice A N c) ks.length (ks.map (Value.int .i64)) by rw[←hN];exact h)
 have HR:=zh hr
 rw[hN] at hc1⊢
 clear h hr hN
 go_enter Tryz.func49,Tryz.ntmps49
 go_wp2
 go_loopw [7] (fun i wr=>∃m:Nat,m≤N∧i= .int .i64 m∧Hid (Ext w wr)) (fun i _=>N - (intOf i).toNat)
 case atStart=>exact⟨0,Nat.zero_le _,rfl,zh (Ext.refl _)⟩
 case round=>
  obtain⟨m,hm,rfl,hE⟩:=hrel
  obtain⟨wq,hwq⟩:=zn (wr)
  rw[←hwq] at hE⊢
  clear hwq
  by_cases hmn:m<N
  ·obtain⟨b,off,x,rfl,hx,hd⟩:=(RdN.ext H.out hE.out).icell hmn
   obtain⟨hk,h6⟩:=HR.out m x hd.out
   have HK:=zh (fun w'=>Zj5 x w' hk)
   go_wp2_with fail
   refine(HK.out _).mono ?_
   rintro e w1 ⟨rfl,E1⟩
   have hE1:=zh (hE.out.trans E1)
   by_cases hx6:x=6
   ·subst hx6
    have h7:=h6 rfl
    rw[HN.out] at h7
    have h8:¬((m:Int)<(N:Int) - 1):=by omega
    clear h6
    go_wp2
    go_roundw
    case rel=>exact⟨m+1,by omega,by go_num,hE1⟩
    case measure=>simp[intOf];omega
   ·have hx1:(x==6)=false:=by simpa using hx6
    clear h6
    go_wp2
    go_roundw
    case rel=>exact⟨m+1,by omega,by go_num,hE1⟩
    case measure=>simp[intOf];omega
  ·obtain rfl:m=N:=by omega
   go_wp2
   go_ret
   exact⟨rfl,hE.out⟩
def encL (fs:List Fd):List Int:=(fs.map (fun f=>encF f.k f.n f.t)).flatten
theorem Zj7 (fs:List Fd)(f:Fd):encL (fs++ [f])=encL fs++encF f.k f.n f.t:=by simp[encL]
theorem Zj8 {fs:List Fd}{m:Nat}{f:Fd}(h:fs[m]?=some f):encL (fs.take (m+1))=encL (fs.take m)++encF f.k f.n f.t:=by
 rw[List.take_add_one,h]
 exact Zj7 _ _
structure FdOk (f:Fd):Prop where
 k:f.k=1∨f.k=2∨f.k=3∨f.k=4∨f.k=6
 n:0≤f.n∧f.n≤4294967295
theorem ZoO (n:Nat)(h:n≤8)(w:World):(Instr.makeSlice 109 (.int .i64 n) (.int .i64 n)).run Tryz.prog w= .ok (.slice (some ⟨w.heap.size,0,none⟩) n n) (w.alloc (.cells (Array.replicate n (.int .i64 0)) 3)):=
 match n,h with
 |0,_=>show(Instr.makeSlice 109 (.int .i64 0) (.int .i64 0)).run Tryz.prog w= .ok (.slice (some ⟨w.heap.size,0,none⟩) 0 0) (w.alloc (.cells (Array.replicate 0 (.int .i64 0)) 3)) by kernel_rfl
 |1,_=>show(Instr.makeSlice 109 (.int .i64 1) (.int .i64 1)).run Tryz.prog w= .ok (.slice (some ⟨w.heap.size,0,none⟩) 1 1) (w.alloc (.cells (Array.replicate 1 (.int .i64 0)) 3)) by kernel_rfl
 |2,_=>show(Instr.makeSlice 109 (.int .i64 2) (.int .i64 2)).run Tryz.prog w= .ok (.slice (some ⟨w.heap.size,0,none⟩) 2 2) (w.alloc (.cells (Array.replicate 2 (.int .i64 0)) 3)) by kernel_rfl
 |3,_=>show(Instr.makeSlice 109 (.int .i64 3) (.int .i64 3)).run Tryz.prog w= .ok (.slice (some ⟨w.heap.size,0,none⟩) 3 3) (w.alloc (.cells (Array.replicate 3 (.int .i64 0)) 3)) by kernel_rfl
 |4,_=>show(Instr.makeSlice 109 (.int .i64 4) (.int .i64 4)).run Tryz.prog w= .ok (.slice (some ⟨w.heap.size,0,none⟩) 4 4) (w.alloc (.cells (Array.replicate 4 (.int .i64 0)) 3)) by kernel_rfl
 |5,_=>show(Instr.makeSlice 109 (.int .i64 5) (.int .i64 5)).run Tryz.prog w= .ok (.slice (some ⟨w.heap.size,0,none⟩) 5 5) (w.alloc (.cells (Array.replicate 5 (.int .i64 0)) 3)) by kernel_rfl
 |6,_=>show(Instr.makeSlice 109 (.int .i64 6) (.int .i64 6)).run Tryz.prog w= .ok (.slice (some ⟨w.heap.size,0,none⟩) 6 6) (w.alloc (.cells (Array.replicate 6 (.int .i64 0)) 3)) by kernel_rfl
 |7,_=>show(Instr.makeSlice 109 (.int .i64 7) (.int .i64 7)).run Tryz.prog w= .ok (.slice (some ⟨w.heap.size,0,none⟩) 7 7) (w.alloc (.cells (Array.replicate 7 (.int .i64 0)) 3)) by kernel_rfl
 |8,_=>show(Instr.makeSlice 109 (.int .i64 8) (.int .i64 8)).run Tryz.prog w= .ok (.slice (some ⟨w.heap.size,0,none⟩) 8 8) (w.alloc (.cells (Array.replicate 8 (.int .i64 0)) 3)) by kernel_rfl
 |n+9,h=>by omega
def kA (fs:List Fd)(m:Nat):List Int:=(fs.map (·.k)).take m++List.replicate (fs.length - m) 0
theorem ZqQ (fs:List Fd)(m:Nat)(h:m≤fs.length):(kA fs m).length=fs.length:=by simp[kA];omega
theorem ZqR {fs:List Fd}{m:Nat}{f:Fd}(h:fs[m]?=some f):(kA fs m).set m f.k=kA fs (m+1):=by
 have hm:=(List.getElem?_eq_some_iff.1 h).1
 have hl:((fs.map (·.k)).take m).length=m:=by simp;omega
 unfold kA
 rw[List.set_append_right _ _ (by omega),hl,Nat.sub_self,show fs.length - m=(fs.length - (m+1))+1 by omega,List.replicate_succ,List.set_cons_zero,List.take_add_one]
 simp[h]
theorem ZqS (fs:List Fd):kA fs fs.length=fs.map (·.k):=by
 unfold kA
 rw[Nat.sub_self,List.replicate_zero,List.append_nil,List.take_of_length_le (by simp)]
theorem ZoP {fs:List Fd}{m:Nat}{f:Fd}{w:World}{g:Nat}(h:fs[m]?=some f)(hb:Blk w g 3 ((kA fs m).map (Value.int .i64)).toArray):Blk (w.setCell ⟨g,m,none⟩ (.int .i64 f.k)) g 3 ((kA fs (m+1)).map (Value.int .i64)).toArray:=by
 have e:((kA fs m).map (Value.int .i64)).toArray.setIfInBounds m (.int .i64 f.k)=((kA fs (m+1)).map (Value.int .i64)).toArray:=by
  rw[←ZqR h]
  simp[List.map_set]
 rw[←e]
 exact hb.set_ m (.int .i64 f.k)
theorem Zb8 {w:World}{g:Nat}{ks:List Int}{t:TypeId}(h:Blk w g t (ks.map (Value.int .i64)).toArray)(hl:ks.length≤1000000):RI .i64 w (.slice (some ⟨g,0,none⟩) ks.length ks.length) ks:=by
 refine⟨by simp,_,_,rfl,Nat.le_refl _,by unfold maxLen;omega,.inr ⟨g,0,rfl,fun j u hu=>?_⟩⟩
 rw[h.cell (0+j),Nat.zero_add]
 simpa using hu
theorem ZfW (fs:List Fd)(j:Nat):(encL (fs.take j)).length≤(encL fs).length:=by
 have h:encL fs=encL (fs.take j)++encL (fs.drop j):=by
  unfold encL
  rw[←List.flatten_append,←List.map_append,List.take_append_drop]
 rw[h,List.length_append]
 exact Nat.le_add_right _ _
def WrP (fs:List Fd)(w:World)(e:Ending)(w':World):Prop:=
 ∃ (v:Value) (q:Int),e= .returned (.tuple #[v,.int .i64 q])∧Ext w w'∧(q=0→(∀f∈fs,fltF f.k f.n f.t=0)∧(encL fs).length≤33792∧OwnS Ub8 5 w.heap.size (fun _=>False) w' v (encL fs))∧(q≠0→v= .slice none 0 0)∧((∀f∈fs,fltF f.k f.n f.t=0)→(encL fs).length≤33792→q=0)
theorem ZeQ (v:Value)(fs:List Fd)(w:World)(h:RdY FdR (fun _=>True) w v fs)(hN:fs.length≤8)(hr:Zdw (fs.map (·.k)))(hf:∀f∈fs,FdOk f):Calls Tryz.prog 22 #[v] w (WrP fs w):=by
 obtain⟨A,c,rfl,hc1,hc2⟩:=h.shape
 have H:=zh h.lt
 have HR:=zh hr
 have HF:=zh hf
 have mk:=ZoO fs.length hN
 have hi21:=zi Tryz.prog 163 21
 have hone:sortsV.all (·.oneCell')=true:=by simp[sortsV,fnV,Value.oneCell']
 have HK0:=zh (show((kA fs 0).map (Value.int .i64)).toArray=Array.replicate fs.length (Value.int .i64 0) by simp[kA])
 obtain⟨N,hNN⟩:=zm (fs.length)
 have HN:=zh hNN
 have H:=zh (show RdY FdR (fun k=>True∧k<w.heap.size) w (.slice A N c) fs by rw[←hNN];exact H.out)
 rw[hNN] at mk hN HK0 hc1⊢
 clear h hr hf hNN
 go_enter Tryz.func22,Tryz.ntmps22
 go_upto_region 2 with fail
 obtain⟨W1,hW1⟩:=zn (w.alloc (.cells (Array.replicate N (.int .i64 0)) 3))
 have B1:=zh (show Blk W1 w.heap.size 3 ((kA fs 0).map (Value.int .i64)).toArray by rw[hW1,HK0.out];exact Blk.new w _ _)
 have E01:Ext w W1:=by rw[hW1];exact(Ext.refl _).alloc _
 rw[←hW1]
 clear hW1 mk
 go_wp2
 go_loopw [17] (fun i wr=>∃m:Nat,m≤N∧i= .int .i64 m∧Hid (Blk wr w.heap.size 3 ((kA fs m).map (Value.int .i64)).toArray)∧Hid (Ext w wr)) (fun i _=>N - (intOf i).toNat)
 case atStart=>exact⟨0,Nat.zero_le _,rfl,B1,zh E01⟩
 case round=>
  clear B1 E01
  obtain⟨m,hm,rfl,BK,hE⟩:=hrel
  by_cases hmn:m<N
  ·obtain⟨b,off,At,ct,f,rfl,k0,k1,k2,k3,hd,ht⟩:=Zfh (H.out.ext hE.out) hmn
   clear ht
   go_upto_region 5 with fail
   obtain⟨W5,hW5⟩:=zn (wr.alloc (.cells #[.int .i64 f.k,.int .u32 f.n,.slice At f.t.length ct,.slice none 0 0] 86))
   have E5:Ext wr W5:=by rw[hW5];exact(Ext.refl _).alloc _
   have P5:Blk W5 wr.heap.size 86 #[.int .i64 f.k,.int .u32 f.n,.slice At f.t.length ct,.slice none 0 0]:=by rw[hW5];exact Blk.new wr _ _
   rw[←hW5]
   clear hW5
   have kp0:=P5.cell 0
   have BK5:=BK.out.ext E5
   have fb:=BK5.frozen m
   have kb:∃u,W5.cell? ⟨w.heap.size,m,none⟩=some u:=by
    rw[BK5.cell]
    exact⟨_,Array.getElem?_eq_getElem (by simp;rw[ZqQ fs m (by rw[HN.out];omega),HN.out];omega)⟩
   obtain⟨u0,kb⟩:=kb
   have BK2:=zh (ZoP hd.out BK5)
   have M2:Mod (fun k=>k=w.heap.size) W5 _:=(Mod.refl _ _).set1 (.int .i64 f.k) (o:=m)
   have hE2:=zh (Mod.toExt (hE.out.trans E5) M2 (by intro k hk he;omega))
   clear M2 k0 k1 k2 k3 BK hE E5 P5 BK5
   go_wp2
   go_roundw
   case rel=>exact⟨m+1,by omega,by go_num,BK2,hE2⟩
   case measure=>simp[intOf];omega
  ·obtain rfl:m=N:=by omega
   have HKK:=zh (show RI .i64 wr (.slice (some ⟨w.heap.size,0,none⟩) m m) (fs.map (·.k)) by
    have h9:=BK.out
    rw[show kA fs m=fs.map (·.k) by rw[←HN.out];exact ZqS fs] at h9
    have h8:=Zb8 h9 (by rw[List.length_map,HN.out];omega)
    rw[List.length_map,HN.out] at h8
    exact h8)
   clear BK
   go_wp2_with fail
   refine(Zj6 _ _ _ HKK.out HR.out).mono ?_
   rintro e w2 ⟨rfl,E2⟩
   have E02:=hE.out.trans E2
   go_wp2_with fail
   refine(Zd6 _).mono ?_
   rintro e w3 ⟨rfl,E3⟩
   have E03:=zh (E02.trans E3)
   clear E02 E2 E3 hE HKK
   go_upto_region 10 with(refine wpList_store_A rfl 163 _ _ rfl w3.heap.size sortsV rfl rfl 163 _ (show Blk _ _ _ _ from Blk.at_ _ _ rfl) hi21 rfl hone ?_;intro w4 HB4 E4;have E4:Ext w3 w4:=E4 w3.heap.size w3 ((Ext.refl w3).alloc _) (by omega))
   have E04:=zh (E03.out.trans E4)
   have B7:=zh HB4
   obtain⟨n7,hn7⟩:=zm (w3.heap.size)
   rw[hn7] at B7⊢
   have HN7:=zh (show w.heap.size≤n7 by rw[←hn7];exact E03.out.size)
   clear E4 E03 HB4 hn7
   go_upto_region 11 with fail
   obtain⟨W8,hW8⟩:=zn (w4.alloc (.cells #[.slice none 0 0] 167))
   have E48:Ext w4 W8:=by rw[hW8];exact(Ext.refl _).alloc _
   have B8:=zh (show Blk W8 w4.heap.size 167 #[.slice none 0 0] by rw[hW8];exact Blk.new w4 _ _)
   obtain⟨n8,hn8⟩:=zm (w4.heap.size)
   have HN8:=zh (show n7<n8 by rw[←hn8];exact B7.out.lt)
   rw[←hW8]
   rw[hn8] at B8⊢
   have E08:=zh (E04.out.trans E48)
   have B7:=zh (B7.out.ext E48)
   have HW8:=zh (show Wr w.heap.size n8 W8 (.slice none 0 0) (encL (fs.take 0)) from⟨B8.out,OwnS.nil _ _ _ _ _⟩)
   clear hW8 E04 E48 hn8 B8
   go_wp2
   go_loopw [36] (fun i wr=>∃ (q:Nat) (u:Value),q≤m∧i= .int .i64 q∧Hid (Wr w.heap.size n8 wr u (encL (fs.take q)))∧Hid (∀f∈fs.take q,fltF f.k f.n f.t=0)∧Hid ((encL (fs.take q)).length≤33792)∧Hid (Blk wr n7 163 sortsV)∧Hid (Ext w wr)) (fun i _=>m - (intOf i).toNat)
   case atStart=>exact⟨0,_,Nat.zero_le _,rfl,HW8,zh (by simp),zh (by simp[encL]),B7,E08⟩
   case round=>
    clear B7 E08 HW8
    obtain⟨q,u,hq,rfl,HW,HFT,HLE,B7,hE⟩:=hrel
    by_cases hqn:q<m
    ·obtain⟨b,off,At,ct,f,rfl,k0,k1,k2,k3,hd,ht⟩:=Zfh H.out hqn
     have k0:=Zaa hE.out k0
     have k1:=Zaa hE.out k1
     have k2:=Zaa hE.out k2
     have k3:=Zaa hE.out k3
     obtain⟨hk,hn0,hn1⟩:=HF.out f (List.mem_of_getElem? hd.out)
     obtain⟨k,n,t⟩:=f
     dsimp only at hk hn0 hn1 k0 k1 k2 k3 ht
     go_upto_region 14 with fail
     obtain⟨W10,hW10⟩:=zn (wr.alloc (.cells #[.int .i64 k,.int .u32 n,.slice At t.length ct,.slice none 0 0] 86))
     have E10:Ext wr W10:=by rw[hW10];exact(Ext.refl _).alloc _
     have P10:=zh (show Blk W10 wr.heap.size 86 #[.int .i64 k,.int .u32 n,.slice At t.length ct,.slice none 0 0] by rw[hW10];exact Blk.new wr _ _)
     rw[←hW10]
     clear hW10
     have HNB:=zh (show ¬wS n8 u wr.heap.size from fun hh=>Nat.lt_irrefl _ (HW.out.lt _ hh))
     obtain⟨n10,hn10⟩:=zm (wr.heap.size)
     rw[hn10] at P10 HNB⊢
     have HTO:=zh (show 0<t.length→∀j,(Value.slice At t.length ct).ownBlock=some j→¬wS n8 u j from fun h0 j hj=>by
      have h9:=(ht.out.2 h0 j hj).2
      rintro(h8|h8)
      ·have:=HN7.out;have:=HN8.out;omega
      ·have:=(HW.out.own.row j h8).1;omega)
     have HTX:=zh (show RI .u8 w (.slice At t.length ct) t from RdS.ri ht.out)
     clear k0 k1 k2 k3 ht hn10
     rcases hk with hk|hk|hk|hk|hk
     all_goals first
      |(
       obtain rfl:k=1:=hk
       have hs6:sortsV[3]?=some (.func (.func 85) #[] #[]):=by rfl
       have hs7:sortsV[4]?=some (.func (.func 86) #[] #[]):=by rfl
       have S6:=zh (((B7.out.ext E10).cell 3).trans hs6)
       have HS7:=zh (fun(w2:World) (h:Blk w2 n7 163 sortsV)=>(h.cell 4).trans hs7)
       obtain⟨z,hz⟩:∃z:Int,(if 255<n then(5:Int) else 0)=z:=⟨_,rfl⟩
       have HFC:=zh (fun w'=>ZiH 1 n (.slice At t.length ct) (.slice none 0 0) w')
       have HFZ:=zh (show fltF 1 n t=z by rw[←hz];simp[fltF])
       have HEN:=zh (show encF 1 n t=[n] by simp[encF])
       clear hs6 hs7
       )
      |(
       obtain rfl:k=2:=hk
       have hs6:sortsV[6]?=some (.func (.func 88) #[] #[]):=by rfl
       have hs7:sortsV[7]?=some (.func (.func 86) #[] #[]):=by rfl
       have S6:=zh (((B7.out.ext E10).cell 6).trans hs6)
       have HS7:=zh (fun(w2:World) (h:Blk w2 n7 163 sortsV)=>(h.cell 7).trans hs7)
       obtain⟨z,hz⟩:∃z:Int,(if 1<n then(5:Int) else 0)=z:=⟨_,rfl⟩
       have HFC:=zh (fun w'=>Zj3 2 n (.slice At t.length ct) (.slice none 0 0) w')
       have HFZ:=zh (show fltF 2 n t=z by rw[←hz];simp[fltF])
       have HEN:=zh (show encF 2 n t=[n] by simp[encF])
       clear hs6 hs7
       )
      |(
       obtain rfl:k=3:=hk
       have hs6:sortsV[9]?=some (.func (.func 90) #[] #[]):=by rfl
       have hs7:sortsV[10]?=some (.func (.func 91) #[] #[]):=by rfl
       have S6:=zh (((B7.out.ext E10).cell 9).trans hs6)
       have HS7:=zh (fun(w2:World) (h:Blk w2 n7 163 sortsV)=>(h.cell 10).trans hs7)
       obtain⟨z,hz⟩:∃z:Int,((0:Int))=z:=⟨_,rfl⟩
       have HFC:=zh (fun w'=>ZoN 3 n (.slice At t.length ct) (.slice none 0 0) w')
       have HFZ:=zh (show fltF 3 n t=z by rw[←hz];simp[fltF])
       have HEN:=zh (show encF 3 n t=Fr.four n by simp[encF])
       clear hs6 hs7
       )
      |(
       obtain rfl:k=4:=hk
       have hs6:sortsV[12]?=some (.func (.func 93) #[] #[]):=by rfl
       have hs7:sortsV[13]?=some (.func (.func 94) #[] #[]):=by rfl
       have S6:=zh (((B7.out.ext E10).cell 12).trans hs6)
       have HS7:=zh (fun(w2:World) (h:Blk w2 n7 163 sortsV)=>(h.cell 13).trans hs7)
       obtain⟨z,hz⟩:∃z:Int,(if 32768<t.length then(6:Int) else 0)=z:=⟨_,rfl⟩
       have HFC:=zh (fun w'=>Zj4 4 n At t.length ct (.slice none 0 0) w')
       have HFZ:=zh (show fltF 4 n t=z by rw[←hz];simp[fltF])
       have HEN:=zh (show encF 4 n t=Fr.four t.length++t by simp[encF])
       clear hs6 hs7
       )
      |(
       obtain rfl:k=6:=hk
       have hs6:sortsV[18]?=some (.func (.func 99) #[] #[]):=by rfl
       have hs7:sortsV[19]?=some (.func (.func 100) #[] #[]):=by rfl
       have S6:=zh (((B7.out.ext E10).cell 18).trans hs6)
       have HS7:=zh (fun(w2:World) (h:Blk w2 n7 163 sortsV)=>(h.cell 19).trans hs7)
       obtain⟨z,hz⟩:∃z:Int,(if 33792<t.length then(6:Int) else 0)=z:=⟨_,rfl⟩
       have HFC:=zh (fun w'=>ZfV 6 n At t.length ct (.slice none 0 0) w')
       have HFZ:=zh (show fltF 6 n t=z by rw[←hz];simp[fltF])
       have HEN:=zh (show encF 6 n t=t by simp[encF])
       clear hs6 hs7
       )
     all_goals
      have B7:=zh (B7.out.ext E10)
      have HW:=zh (HW.out.ext E10)
      have E010:=zh (hE.out.trans E10)
      rw[hz] at HFC
      have HZV:=zh hz
      clear E10 hE hz
      refine zg (fun w'=>Ext W10 w') (Ext.drew (Ext.refl _)) fun hHeld=>?_
      refine zr 0 ?_
      (refine zu 1 (fun _ h=>(P10.out.ext h).cell 0) ?_)
      refine zr 2 ?_
      refine zr 3 ?_
      refine zv 4 S6.out ?_
      (refine zT (i:=5) (v:=?_) rfl (Or.inl ⟨by rfl,?_⟩) ?_;rotate_left;(focus(intro w' hSw;have c0:=(P10.out.ext hSw).cell 0;have c1:=(P10.out.ext hSw).cell 1;have c2:=(P10.out.ext hSw).cell 2;have c3:=(P10.out.ext hSw).cell 3;go_simp;try with_reducible rfl));(try simp only[zP]))
      (refine zw 6 fun K hK=>?_;go_simp;refine(HFC.out _).mono ?_;rintro e w11 ⟨rfl,E11⟩;(try dsimp only);refine zo hK zX fun hHeld=>?_;clear hK K)
      refine zr 7 ?_
      refine zd ?_
      have B7:=zh (B7.out.ext hHeld)
      have HW:=zh (HW.out.ext hHeld)
      have P10:=zh (P10.out.ext hHeld)
      have E011:=zh (E010.out.trans hHeld)
      clear hHeld E11 E010 S6 HFC
      by_cases hz0:z=0
      ·subst hz0
       go_upto_region 17 with fail
       have hbs:w.heap.size≤w11.heap.size:=E011.out.size
       have HN7B:=zh (show ¬wS n8 u n7 from by
        rintro(h9|h9)
        ·have:=HN8.out;omega
        ·obtain⟨us,ho,_⟩:=HW.out.own
         exact Zal ho B7.out (by decide) h9)
       have hle:=HLE.out
       refine zg (fun w'=>Mod (wS n8 u) w11 w') (Mod.of_ext (Ext.drew (Ext.refl _))) fun hHeld=>?_
       obtain⟨D,hD⟩:=zn (w11.drew)
       have ED:Ext w11 D:=by rw[hD];exact(Ext.refl _).drew
       rw[←hD] at hHeld⊢
       clear hD
       refine zr 0 ?_
       (refine zu 1 (fun _ h=>(P10.out.mod h HNB.out).cell 0) ?_)
       refine zr 2 ?_
       refine zr 3 ?_
       (refine zu 4 (fun w' h=>HS7.out w' (B7.out.mod h HN7B.out)) ?_)
       refine zr 5 ?_
       (refine zT (i:=6) (v:=?_) rfl (Or.inl ⟨by rfl,?_⟩) ?_;rotate_left;(focus(intro w' hSw;have c0:=(P10.out.mod hSw HNB.out).cell 0;have c1:=(P10.out.mod hSw HNB.out).cell 1;have c2:=(P10.out.mod hSw HNB.out).cell 2;have c3:=(P10.out.mod hSw HNB.out).cell 3;go_simp;try with_reducible rfl));(try simp only[zP]))
       refine zw 7 fun K hK=>?_
       go_simp
       first
        |(go_at_call 86;refine(Zmd w.heap.size n8 u _ _ n (.slice At t.length ct) (.slice none 0 0) _ (HW.out.ext ED) (Nat.le_trans hbs ED.size) (by have h9:=HZV.out;split at h9<;>omega) (by omega)).mono ?_)
        |(go_at_call 91;refine(ZhS w.heap.size n8 u _ 3 n (.slice At t.length ct) (.slice none 0 0) _ (HW.out.ext ED) (Nat.le_trans hbs ED.size) (by omega) (by omega)).mono ?_)
        |(go_at_call 94;refine(Zj2 w.heap.size n8 u _ 4 n (.slice At t.length ct) (.slice none 0 0) t _ (HW.out.ext ED) (Nat.le_trans hbs ED.size) (RdN.ext HTX.out (E011.out.trans ED)) (by omega) (by have h9:=HZV.out;split at h9<;>omega) (HTO.out)).mono ?_)
        |(go_at_call 100;refine(ZfU w.heap.size n8 u _ 6 n (.slice At t.length ct) (.slice none 0 0) t _ (HW.out.ext ED) (Nat.le_trans hbs ED.size) (RdN.ext HTX.out (E011.out.trans ED)) (by omega) (by have h9:=HZV.out;split at h9<;>omega)).mono ?_)
       rintro e w12 ⟨rfl,v12,R12,M12,X12⟩
       (try dsimp only)
       refine zo hK ((Mod.of_ext ED).trans M12) fun hHeld=>?_
       clear hK K
       refine zd ?_
       have B7:=zh (B7.out.mod hHeld HN7B.out)
       have hE12:=zh (Mod.toExt E011.out hHeld (by
        rintro k hk (h9|h9)
        ·have:=HN7.out;have:=HN8.out;omega
        ·have:=(HW.out.own.row k h9).1;omega))
       have R12:Wr w.heap.size n8 w12 v12 (encL (fs.take (q+1))):=by rw[Zj8 hd.out,HEN.out];exact R12
       have HFT:=zh (show ∀f∈fs.take (q+1),fltF f.k f.n f.t=0 by
        rw[List.take_add_one,hd.out]
        intro f hf
        rcases List.mem_append.1 hf with h|h
        ·exact HFT.out f h
        ·simp at h;rw[h];exact HFZ.out)
       obtain⟨A12,c12,rfl,-,-⟩:=R12.own.shape
       have kb:=R12.blk.cell 0
       have HR12:=zh R12
       obtain⟨L12,hL12⟩:∃L,(encL (fs.take (q+1))).length=L:=⟨_,rfl⟩
       have HL12:=zh hL12
       rw[hL12] at kb
       clear hHeld R12 M12 X12 ED hL12 hle
       by_cases hbig:33792<L12
       ·go_wp2
        go_ret2
        exact⟨_,6,rfl,hE12.out,fun h=>absurd h (by decide),fun _=>rfl,fun _ hl9=>by have:=ZfW fs (q+1);have:=HL12.out;omega⟩
       ·have hbig2:¬(33792<(L12:Int)):=by omega
        go_wp2
        go_roundw
        case rel=>exact⟨q+1,_,by omega,by go_num,HR12,HFT,zh (by rw[HL12.out];omega),B7,hE12⟩
        case measure=>simp[intOf];omega
      ·have hz1:(z==0)=false:=by simpa using hz0
       go_wp2
       go_ret2
       exact⟨_,z,rfl,E011.out,fun h=>absurd h hz0,fun _=>rfl,fun ha9 _=>absurd (HFZ.out.symm.trans (ha9 _ (List.mem_of_getElem? hd.out))) hz0⟩
    ·obtain rfl:q=m:=by omega
     have kb:=HW.out.blk.cell 0
     have hta:fs.take q=fs:=by rw[←HN.out,List.take_length]
     have HTA:=zh hta
     clear hta
     go_wp2
     go_ret2
     refine⟨u,0,rfl,hE.out,fun _=>?_,fun h=>absurd rfl h,fun _ _=>rfl⟩
     have h1:=HFT.out
     have h2:=HLE.out
     have h3:=HW.out.own
     rw[HTA.out] at h1 h2 h3
     exact⟨h1,h2,h3⟩
structure Pa where
 k:Int
 g:Nat
 p:Nat
abbrev paA (q:Pa):Array Value:=#[.int .i64 q.k,.func (.func q.g) #[] #[],.func (.func q.p) #[] #[]]
def paCode:Pa:=⟨3,230,231⟩
def paWords:Pa:=⟨4,232,233⟩
def paLang:Pa:=⟨4,234,235⟩
def paName:Pa:=⟨4,236,237⟩
def paWant:Pa:=⟨2,238,239⟩
def paRest:Pa:=⟨6,232,233⟩
def paSender:Pa:=⟨3,240,241⟩
def paWindow:Pa:=⟨3,242,243⟩
def paPacket:Pa:=⟨3,244,245⟩
def paChan:Pa:=⟨3,246,247⟩
theorem Zd7 (w:World):Calls Tryz.prog 161 #[] w fun e w'=>e= .returned (.agg (paA paCode))∧Ext w w':=by
 have hi:=zi Tryz.prog 228 3
 go_enter Tryz.func161,Tryz.ntmps161
 go_wp2_with(refine wpList_store_A rfl 228 _ _ rfl w.heap.size _ rfl rfl 228 _ (show Blk _ _ _ _ from Blk.at_ _ _ (by simp)) hi rfl (by simp[Value.oneCell']) ?_;intro w2 HB E2;have E2:=E2 w.heap.size w zX (Nat.le_refl _))
 refine bodyPost_ret_by (results_cell_row Tryz.results161 _ _ w.heap.size 228 _ _ _ rfl HB Tryz.underlying228 rfl hi) rfl ?_
 exact⟨rfl,E2⟩
theorem ZbU (w:World):Calls Tryz.prog 162 #[] w fun e w'=>e= .returned (.agg (paA paWords))∧Ext w w':=by
 have hi:=zi Tryz.prog 228 3
 go_enter Tryz.func162,Tryz.ntmps162
 go_wp2_with(refine wpList_store_A rfl 228 _ _ rfl w.heap.size _ rfl rfl 228 _ (show Blk _ _ _ _ from Blk.at_ _ _ (by simp)) hi rfl (by simp[Value.oneCell']) ?_;intro w2 HB E2;have E2:=E2 w.heap.size w zX (Nat.le_refl _))
 refine bodyPost_ret_by (results_cell_row Tryz.results162 _ _ w.heap.size 228 _ _ _ rfl HB Tryz.underlying228 rfl hi) rfl ?_
 exact⟨rfl,E2⟩
theorem ZfX (w:World):Calls Tryz.prog 163 #[] w fun e w'=>e= .returned (.agg (paA paLang))∧Ext w w':=by
 have hi:=zi Tryz.prog 228 3
 go_enter Tryz.func163,Tryz.ntmps163
 go_wp2_with(refine wpList_store_A rfl 228 _ _ rfl w.heap.size _ rfl rfl 228 _ (show Blk _ _ _ _ from Blk.at_ _ _ (by simp)) hi rfl (by simp[Value.oneCell']) ?_;intro w2 HB E2;have E2:=E2 w.heap.size w zX (Nat.le_refl _))
 refine bodyPost_ret_by (results_cell_row Tryz.results163 _ _ w.heap.size 228 _ _ _ rfl HB Tryz.underlying228 rfl hi) rfl ?_
 exact⟨rfl,E2⟩
theorem Zd8 (w:World):Calls Tryz.prog 164 #[] w fun e w'=>e= .returned (.agg (paA paName))∧Ext w w':=by
 have hi:=zi Tryz.prog 228 3
 go_enter Tryz.func164,Tryz.ntmps164
 go_wp2_with(refine wpList_store_A rfl 228 _ _ rfl w.heap.size _ rfl rfl 228 _ (show Blk _ _ _ _ from Blk.at_ _ _ (by simp)) hi rfl (by simp[Value.oneCell']) ?_;intro w2 HB E2;have E2:=E2 w.heap.size w zX (Nat.le_refl _))
 refine bodyPost_ret_by (results_cell_row Tryz.results164 _ _ w.heap.size 228 _ _ _ rfl HB Tryz.underlying228 rfl hi) rfl ?_
 exact⟨rfl,E2⟩
theorem ZfY (w:World):Calls Tryz.prog 165 #[] w fun e w'=>e= .returned (.agg (paA paWant))∧Ext w w':=by
 have hi:=zi Tryz.prog 228 3
 go_enter Tryz.func165,Tryz.ntmps165
 go_wp2_with(refine wpList_store_A rfl 228 _ _ rfl w.heap.size _ rfl rfl 228 _ (show Blk _ _ _ _ from Blk.at_ _ _ (by simp)) hi rfl (by simp[Value.oneCell']) ?_;intro w2 HB E2;have E2:=E2 w.heap.size w zX (Nat.le_refl _))
 refine bodyPost_ret_by (results_cell_row Tryz.results165 _ _ w.heap.size 228 _ _ _ rfl HB Tryz.underlying228 rfl hi) rfl ?_
 exact⟨rfl,E2⟩
theorem ZbH (w:World):Calls Tryz.prog 166 #[] w fun e w'=>e= .returned (.agg (paA paRest))∧Ext w w':=by
 have hi:=zi Tryz.prog 228 3
 go_enter Tryz.func166,Tryz.ntmps166
 go_wp2_with(refine wpList_store_A rfl 228 _ _ rfl w.heap.size _ rfl rfl 228 _ (show Blk _ _ _ _ from Blk.at_ _ _ (by simp)) hi rfl (by simp[Value.oneCell']) ?_;intro w2 HB E2;have E2:=E2 w.heap.size w zX (Nat.le_refl _))
 refine bodyPost_ret_by (results_cell_row Tryz.results166 _ _ w.heap.size 228 _ _ _ rfl HB Tryz.underlying228 rfl hi) rfl ?_
 exact⟨rfl,E2⟩
theorem Zd9 (w:World):Calls Tryz.prog 167 #[] w fun e w'=>e= .returned (.agg (paA paSender))∧Ext w w':=by
 have hi:=zi Tryz.prog 228 3
 go_enter Tryz.func167,Tryz.ntmps167
 go_wp2_with(refine wpList_store_A rfl 228 _ _ rfl w.heap.size _ rfl rfl 228 _ (show Blk _ _ _ _ from Blk.at_ _ _ (by simp)) hi rfl (by simp[Value.oneCell']) ?_;intro w2 HB E2;have E2:=E2 w.heap.size w zX (Nat.le_refl _))
 refine bodyPost_ret_by (results_cell_row Tryz.results167 _ _ w.heap.size 228 _ _ _ rfl HB Tryz.underlying228 rfl hi) rfl ?_
 exact⟨rfl,E2⟩
theorem Zcf (w:World):Calls Tryz.prog 168 #[] w fun e w'=>e= .returned (.agg (paA paWindow))∧Ext w w':=by
 have hi:=zi Tryz.prog 228 3
 go_enter Tryz.func168,Tryz.ntmps168
 go_wp2_with(refine wpList_store_A rfl 228 _ _ rfl w.heap.size _ rfl rfl 228 _ (show Blk _ _ _ _ from Blk.at_ _ _ (by simp)) hi rfl (by simp[Value.oneCell']) ?_;intro w2 HB E2;have E2:=E2 w.heap.size w zX (Nat.le_refl _))
 refine bodyPost_ret_by (results_cell_row Tryz.results168 _ _ w.heap.size 228 _ _ _ rfl HB Tryz.underlying228 rfl hi) rfl ?_
 exact⟨rfl,E2⟩
theorem Zea (w:World):Calls Tryz.prog 169 #[] w fun e w'=>e= .returned (.agg (paA paPacket))∧Ext w w':=by
 have hi:=zi Tryz.prog 228 3
 go_enter Tryz.func169,Tryz.ntmps169
 go_wp2_with(refine wpList_store_A rfl 228 _ _ rfl w.heap.size _ rfl rfl 228 _ (show Blk _ _ _ _ from Blk.at_ _ _ (by simp)) hi rfl (by simp[Value.oneCell']) ?_;intro w2 HB E2;have E2:=E2 w.heap.size w zX (Nat.le_refl _))
 refine bodyPost_ret_by (results_cell_row Tryz.results169 _ _ w.heap.size 228 _ _ _ rfl HB Tryz.underlying228 rfl hi) rfl ?_
 exact⟨rfl,E2⟩
theorem Zat (w:World):Calls Tryz.prog 170 #[] w fun e w'=>e= .returned (.agg (paA paChan))∧Ext w w':=by
 have hi:=zi Tryz.prog 228 3
 go_enter Tryz.func170,Tryz.ntmps170
 go_wp2_with(refine wpList_store_A rfl 228 _ _ rfl w.heap.size _ rfl rfl 228 _ (show Blk _ _ _ _ from Blk.at_ _ _ (by simp)) hi rfl (by simp[Value.oneCell']) ?_;intro w2 HB E2;have E2:=E2 w.heap.size w zX (Nat.le_refl _))
 refine bodyPost_ret_by (results_cell_row Tryz.results170 _ _ w.heap.size 228 _ _ _ rfl HB Tryz.underlying228 rfl hi) rfl ?_
 exact⟨rfl,E2⟩
def rowL (k:Int):Option (List Pa):=
 if k=1 then some [paCode,paWords,paLang] else if k=80 then some [paName,paWant,paRest] else if k=81 then some [paRest] else if k=82 then some [] else if k=90 then some [paName,paSender,paWindow,paPacket,paRest] else if k=91 then some [paChan,paSender,paWindow,paPacket,paRest] else if k=92 then some [paChan,paCode,paWords,paLang] else if k=93 then some [paChan,paWindow] else if k=94 then some [paChan,paWords] else if k=95 then some [paChan,paCode,paWords] else if k=96∨k=97∨k=99∨k=100 then some [paChan] else if k=98 then some [paChan,paName,paWant,paRest] else none
def Zb9 (k:Int)(w:World)(e:Ending)(w':World):Prop:=
 Ext w w'∧match rowL k with
 |none=>e= .returned (.tuple #[.slice none 0 0,.bool false])
 |some ps=>∃A,e= .returned (.tuple #[.slice A ps.length ps.length,.bool true])∧(ps=[]∨∃g,A=some ⟨g,0,none⟩∧w.heap.size≤g∧Blk w' g 228 (ps.flatMap (fun q=>(paA q).toList)).toArray)
theorem ZqT (w:World):Calls Tryz.prog 81 #[.int .i64 1] w (Zb9 1 w):=by
 unfold Zb9
 rw[show rowL 1=some [paCode,paWords,paLang] from by simp[rowL]]
 go_enter Tryz.func81,Tryz.ntmps81
 go_wp2_with fail
 refine(Zd7 _).mono ?_
 rintro e w1 ⟨rfl,E1⟩
 have E01:Ext w w1:=zX
 go_wp2_with fail
 refine(ZbU _).mono ?_
 rintro e w2 ⟨rfl,E2⟩
 have E02:Ext w w2:=zX
 go_wp2_with fail
 refine(ZfX _).mono ?_
 rintro e w3 ⟨rfl,E3⟩
 have E03:Ext w w3:=zX
 have HB:=zh (Blk.new w3 228 (([paCode,paWords,paLang]:List Pa).flatMap (fun q=>(paA q).toList)).toArray)
 have EE:=zh E03
 go_wp2
 go_ret2
 exact⟨EE.out.alloc _,_,rfl,.inr ⟨_,rfl,EE.out.size,HB.out⟩⟩
theorem ZoQ (w:World):Calls Tryz.prog 81 #[.int .i64 80] w (Zb9 80 w):=by
 unfold Zb9
 rw[show rowL 80=some [paName,paWant,paRest] from by simp[rowL]]
 go_enter Tryz.func81,Tryz.ntmps81
 go_wp2_with fail
 refine(Zd8 _).mono ?_
 rintro e w1 ⟨rfl,E1⟩
 have E01:Ext w w1:=zX
 go_wp2_with fail
 refine(ZfY _).mono ?_
 rintro e w2 ⟨rfl,E2⟩
 have E02:Ext w w2:=zX
 go_wp2_with fail
 refine(ZbH _).mono ?_
 rintro e w3 ⟨rfl,E3⟩
 have E03:Ext w w3:=zX
 have HB:=zh (Blk.new w3 228 (([paName,paWant,paRest]:List Pa).flatMap (fun q=>(paA q).toList)).toArray)
 have EE:=zh E03
 go_wp2
 go_ret2
 exact⟨EE.out.alloc _,_,rfl,.inr ⟨_,rfl,EE.out.size,HB.out⟩⟩
theorem ZoR (w:World):Calls Tryz.prog 81 #[.int .i64 81] w (Zb9 81 w):=by
 unfold Zb9
 rw[show rowL 81=some [paRest] from by simp[rowL]]
 go_enter Tryz.func81,Tryz.ntmps81
 go_wp2_with fail
 refine(ZbH _).mono ?_
 rintro e w1 ⟨rfl,E1⟩
 have E01:Ext w w1:=zX
 have HB:=zh (Blk.new w1 228 (([paRest]:List Pa).flatMap (fun q=>(paA q).toList)).toArray)
 have EE:=zh E01
 go_wp2
 go_ret2
 exact⟨EE.out.alloc _,_,rfl,.inr ⟨_,rfl,EE.out.size,HB.out⟩⟩
theorem ZoS (w:World):Calls Tryz.prog 81 #[.int .i64 82] w (Zb9 82 w):=by
 unfold Zb9
 rw[show rowL 82=some [] from by simp[rowL]]
 go_enter Tryz.func81,Tryz.ntmps81
 go_wp2
 go_ret2
 exact⟨zX,_,rfl,.inl (by trivial)⟩
theorem ZoT (w:World):Calls Tryz.prog 81 #[.int .i64 90] w (Zb9 90 w):=by
 unfold Zb9
 rw[show rowL 90=some [paName,paSender,paWindow,paPacket,paRest] from by simp[rowL]]
 go_enter Tryz.func81,Tryz.ntmps81
 go_wp2_with fail
 refine(Zd8 _).mono ?_
 rintro e w1 ⟨rfl,E1⟩
 have E01:Ext w w1:=zX
 go_wp2_with fail
 refine(Zd9 _).mono ?_
 rintro e w2 ⟨rfl,E2⟩
 have E02:Ext w w2:=zX
 go_wp2_with fail
 refine(Zcf _).mono ?_
 rintro e w3 ⟨rfl,E3⟩
 have E03:Ext w w3:=zX
 go_wp2_with fail
 refine(Zea _).mono ?_
 rintro e w4 ⟨rfl,E4⟩
 have E04:Ext w w4:=zX
 go_wp2_with fail
 refine(ZbH _).mono ?_
 rintro e w5 ⟨rfl,E5⟩
 have E05:Ext w w5:=zX
 have HB:=zh (Blk.new w5 228 (([paName,paSender,paWindow,paPacket,paRest]:List Pa).flatMap (fun q=>(paA q).toList)).toArray)
 have EE:=zh E05
 go_wp2
 go_ret2
 exact⟨EE.out.alloc _,_,rfl,.inr ⟨_,rfl,EE.out.size,HB.out⟩⟩
theorem ZoU (w:World):Calls Tryz.prog 81 #[.int .i64 91] w (Zb9 91 w):=by
 unfold Zb9
 rw[show rowL 91=some [paChan,paSender,paWindow,paPacket,paRest] from by simp[rowL]]
 go_enter Tryz.func81,Tryz.ntmps81
 go_wp2_with fail
 refine(Zat _).mono ?_
 rintro e w1 ⟨rfl,E1⟩
 have E01:Ext w w1:=zX
 go_wp2_with fail
 refine(Zd9 _).mono ?_
 rintro e w2 ⟨rfl,E2⟩
 have E02:Ext w w2:=zX
 go_wp2_with fail
 refine(Zcf _).mono ?_
 rintro e w3 ⟨rfl,E3⟩
 have E03:Ext w w3:=zX
 go_wp2_with fail
 refine(Zea _).mono ?_
 rintro e w4 ⟨rfl,E4⟩
 have E04:Ext w w4:=zX
 go_wp2_with fail
 refine(ZbH _).mono ?_
 rintro e w5 ⟨rfl,E5⟩
 have E05:Ext w w5:=zX
 have HB:=zh (Blk.new w5 228 (([paChan,paSender,paWindow,paPacket,paRest]:List Pa).flatMap (fun q=>(paA q).toList)).toArray)
 have EE:=zh E05
 go_wp2
 go_ret2
 exact⟨EE.out.alloc _,_,rfl,.inr ⟨_,rfl,EE.out.size,HB.out⟩⟩
theorem ZoV (w:World):Calls Tryz.prog 81 #[.int .i64 92] w (Zb9 92 w):=by
 unfold Zb9
 rw[show rowL 92=some [paChan,paCode,paWords,paLang] from by simp[rowL]]
 go_enter Tryz.func81,Tryz.ntmps81
 go_wp2_with fail
 refine(Zat _).mono ?_
 rintro e w1 ⟨rfl,E1⟩
 have E01:Ext w w1:=zX
 go_wp2_with fail
 refine(Zd7 _).mono ?_
 rintro e w2 ⟨rfl,E2⟩
 have E02:Ext w w2:=zX
 go_wp2_with fail
 refine(ZbU _).mono ?_
 rintro e w3 ⟨rfl,E3⟩
 have E03:Ext w w3:=zX
 go_wp2_with fail
 refine(ZfX _).mono ?_
 rintro e w4 ⟨rfl,E4⟩
 have E04:Ext w w4:=zX
 have HB:=zh (Blk.new w4 228 (([paChan,paCode,paWords,paLang]:List Pa).flatMap (fun q=>(paA q).toList)).toArray)
 have EE:=zh E04
 go_wp2
 go_ret2
 exact⟨EE.out.alloc _,_,rfl,.inr ⟨_,rfl,EE.out.size,HB.out⟩⟩
theorem ZoW (w:World):Calls Tryz.prog 81 #[.int .i64 93] w (Zb9 93 w):=by
 unfold Zb9
 rw[show rowL 93=some [paChan,paWindow] from by simp[rowL]]
 go_enter Tryz.func81,Tryz.ntmps81
 go_wp2_with fail
 refine(Zat _).mono ?_
 rintro e w1 ⟨rfl,E1⟩
 have E01:Ext w w1:=zX
 go_wp2_with fail
 refine(Zcf _).mono ?_
 rintro e w2 ⟨rfl,E2⟩
 have E02:Ext w w2:=zX
 have HB:=zh (Blk.new w2 228 (([paChan,paWindow]:List Pa).flatMap (fun q=>(paA q).toList)).toArray)
 have EE:=zh E02
 go_wp2
 go_ret2
 exact⟨EE.out.alloc _,_,rfl,.inr ⟨_,rfl,EE.out.size,HB.out⟩⟩
theorem ZoX (w:World):Calls Tryz.prog 81 #[.int .i64 94] w (Zb9 94 w):=by
 unfold Zb9
 rw[show rowL 94=some [paChan,paWords] from by simp[rowL]]
 go_enter Tryz.func81,Tryz.ntmps81
 go_wp2_with fail
 refine(Zat _).mono ?_
 rintro e w1 ⟨rfl,E1⟩
 have E01:Ext w w1:=zX
 go_wp2_with fail
 refine(ZbU _).mono ?_
 rintro e w2 ⟨rfl,E2⟩
 have E02:Ext w w2:=zX
 have HB:=zh (Blk.new w2 228 (([paChan,paWords]:List Pa).flatMap (fun q=>(paA q).toList)).toArray)
 have EE:=zh E02
 go_wp2
 go_ret2
 exact⟨EE.out.alloc _,_,rfl,.inr ⟨_,rfl,EE.out.size,HB.out⟩⟩
theorem ZoY (w:World):Calls Tryz.prog 81 #[.int .i64 95] w (Zb9 95 w):=by
 unfold Zb9
 rw[show rowL 95=some [paChan,paCode,paWords] from by simp[rowL]]
 go_enter Tryz.func81,Tryz.ntmps81
 go_wp2_with fail
 refine(Zat _).mono ?_
 rintro e w1 ⟨rfl,E1⟩
 have E01:Ext w w1:=zX
 go_wp2_with fail
 refine(Zd7 _).mono ?_
 rintro e w2 ⟨rfl,E2⟩
 have E02:Ext w w2:=zX
 go_wp2_with fail
 refine(ZbU _).mono ?_
 rintro e w3 ⟨rfl,E3⟩
 have E03:Ext w w3:=zX
 have HB:=zh (Blk.new w3 228 (([paChan,paCode,paWords]:List Pa).flatMap (fun q=>(paA q).toList)).toArray)
 have EE:=zh E03
 go_wp2
 go_ret2
 exact⟨EE.out.alloc _,_,rfl,.inr ⟨_,rfl,EE.out.size,HB.out⟩⟩
theorem ZoZ (w:World):Calls Tryz.prog 81 #[.int .i64 96] w (Zb9 96 w):=by
 unfold Zb9
 rw[show rowL 96=some [paChan] from by simp[rowL]]
 go_enter Tryz.func81,Tryz.ntmps81
 go_wp2_with fail
 refine(Zat _).mono ?_
 rintro e w1 ⟨rfl,E1⟩
 have E01:Ext w w1:=zX
 have HB:=zh (Blk.new w1 228 (([paChan]:List Pa).flatMap (fun q=>(paA q).toList)).toArray)
 have EE:=zh E01
 go_wp2
 go_ret2
 exact⟨EE.out.alloc _,_,rfl,.inr ⟨_,rfl,EE.out.size,HB.out⟩⟩
theorem Zo0 (w:World):Calls Tryz.prog 81 #[.int .i64 97] w (Zb9 97 w):=by
 unfold Zb9
 rw[show rowL 97=some [paChan] from by simp[rowL]]
 go_enter Tryz.func81,Tryz.ntmps81
 go_wp2_with fail
 refine(Zat _).mono ?_
 rintro e w1 ⟨rfl,E1⟩
 have E01:Ext w w1:=zX
 have HB:=zh (Blk.new w1 228 (([paChan]:List Pa).flatMap (fun q=>(paA q).toList)).toArray)
 have EE:=zh E01
 go_wp2
 go_ret2
 exact⟨EE.out.alloc _,_,rfl,.inr ⟨_,rfl,EE.out.size,HB.out⟩⟩
theorem Zo1 (w:World):Calls Tryz.prog 81 #[.int .i64 99] w (Zb9 99 w):=by
 unfold Zb9
 rw[show rowL 99=some [paChan] from by simp[rowL]]
 go_enter Tryz.func81,Tryz.ntmps81
 go_wp2_with fail
 refine(Zat _).mono ?_
 rintro e w1 ⟨rfl,E1⟩
 have E01:Ext w w1:=zX
 have HB:=zh (Blk.new w1 228 (([paChan]:List Pa).flatMap (fun q=>(paA q).toList)).toArray)
 have EE:=zh E01
 go_wp2
 go_ret2
 exact⟨EE.out.alloc _,_,rfl,.inr ⟨_,rfl,EE.out.size,HB.out⟩⟩
theorem Zme (w:World):Calls Tryz.prog 81 #[.int .i64 100] w (Zb9 100 w):=by
 unfold Zb9
 rw[show rowL 100=some [paChan] from by simp[rowL]]
 go_enter Tryz.func81,Tryz.ntmps81
 go_wp2_with fail
 refine(Zat _).mono ?_
 rintro e w1 ⟨rfl,E1⟩
 have E01:Ext w w1:=zX
 have HB:=zh (Blk.new w1 228 (([paChan]:List Pa).flatMap (fun q=>(paA q).toList)).toArray)
 have EE:=zh E01
 go_wp2
 go_ret2
 exact⟨EE.out.alloc _,_,rfl,.inr ⟨_,rfl,EE.out.size,HB.out⟩⟩
theorem Zo2 (w:World):Calls Tryz.prog 81 #[.int .i64 98] w (Zb9 98 w):=by
 unfold Zb9
 rw[show rowL 98=some [paChan,paName,paWant,paRest] from by simp[rowL]]
 go_enter Tryz.func81,Tryz.ntmps81
 go_wp2_with fail
 refine(Zat _).mono ?_
 rintro e w1 ⟨rfl,E1⟩
 have E01:Ext w w1:=zX
 go_wp2_with fail
 refine(Zd8 _).mono ?_
 rintro e w2 ⟨rfl,E2⟩
 have E02:Ext w w2:=zX
 go_wp2_with fail
 refine(ZfY _).mono ?_
 rintro e w3 ⟨rfl,E3⟩
 have E03:Ext w w3:=zX
 go_wp2_with fail
 refine(ZbH _).mono ?_
 rintro e w4 ⟨rfl,E4⟩
 have E04:Ext w w4:=zX
 have HB:=zh (Blk.new w4 228 (([paChan,paName,paWant,paRest]:List Pa).flatMap (fun q=>(paA q).toList)).toArray)
 have EE:=zh E04
 go_wp2
 go_ret2
 exact⟨EE.out.alloc _,_,rfl,.inr ⟨_,rfl,EE.out.size,HB.out⟩⟩
theorem ZhU (k:Int)(w:World):Calls Tryz.prog 81 #[.int .i64 k] w (Zb9 k w):=by
 by_cases h:k=1∨k=80∨k=81∨k=82∨k=90∨k=91∨k=92∨k=93∨k=94∨k=95∨k=96∨k=97∨k=99∨k=100∨k=98
 ·rcases h with rfl|rfl|rfl|rfl|rfl|rfl|rfl|rfl|rfl|rfl|rfl|rfl|rfl|rfl|rfl
  ·exact ZqT w
  ·exact ZoQ w
  ·exact ZoR w
  ·exact ZoS w
  ·exact ZoT w
  ·exact ZoU w
  ·exact ZoV w
  ·exact ZoW w
  ·exact ZoX w
  ·exact ZoY w
  ·exact ZoZ w
  ·exact Zo0 w
  ·exact Zo1 w
  ·exact Zme w
  ·exact Zo2 w
 ·unfold Zb9
  simp only[not_or] at h
  obtain⟨h1,h80,h81,h82,h90,h91,h92,h93,h94,h95,h96,h97,h99,h100,h98⟩:=h
  rw[show rowL k=none from by simp[rowL,h1,h80,h81,h82,h90,h91,h92,h93,h94,h95,h96,h97,h99,h100,h98]]
  have i1:(k==1)=false:=by simpa using h1
  have i80:(k==80)=false:=by simpa using h80
  have i81:(k==81)=false:=by simpa using h81
  have i82:(k==82)=false:=by simpa using h82
  have i90:(k==90)=false:=by simpa using h90
  have i91:(k==91)=false:=by simpa using h91
  have i92:(k==92)=false:=by simpa using h92
  have i93:(k==93)=false:=by simpa using h93
  have i94:(k==94)=false:=by simpa using h94
  have i95:(k==95)=false:=by simpa using h95
  have i96:(k==96)=false:=by simpa using h96
  have i97:(k==97)=false:=by simpa using h97
  have i99:(k==99)=false:=by simpa using h99
  have i100:(k==100)=false:=by simpa using h100
  have i98:(k==98)=false:=by simpa using h98
  go_enter Tryz.func81,Tryz.ntmps81
  go_wp2
  go_ret2
  exact⟨zX,rfl⟩
end Go.Proofs.YtmmhcllibpmfnaaGreatDoor
