/- Parts EL28. No condition. -/
import Derived.Test.YtmmhcllibpmfnaaGreatDoorYB16
import Derived.Test.YtmmhcllibpmfnaaGreatDoorYB17
import Derived.Test.YtmmhcllibpmfnaaGreatDoorYB19
import Derived.LaidMore
import Derived.Lay
import Derived.SevenTiedAt
import Derived.Stop.Joined
import Derived.Test.YtmmhcllibpmfnaaGreatDoorCards
import Derived.Test.YtmmhcllibpmfnaaGreatDoorTie
set_option maxRecDepth 100000
set_option maxHeartbeats 8000000
namespace Go.Proofs.YtmmhcllibpmfnaaGreatDoor
open Go.RowKit Go.Kb Go.ChangeShapes Go.WideShapes Go.ChangeAt
section
variable {H:Type} {enc:TypeId×Value→H} {P:Program} {W:World}
theorem ZcF {t:TypeId}{fs:Array Field}(hs:P.underlying t=some (.struct fs)){fuel:Nat}{cs:List Value}{x:DataW H×List MemPlace}
 (h:DataW.trod enc P W 0 (fun _=>true) true fuel t cs=some x) (hw:(x.1.weights P t).all (· ≤reachBytes)=true):
 cs.length=P.cellsOf t∧∀ (j:Nat) (f:Field),fs[j]?=some f→Zaf enc P W cs f.type f.offset:=by
 obtain⟨xs,n,rfl,rfl,hl,hxl,hf⟩:=DataW.trod_struct hs h
 refine⟨hl,fun j f hj=>?_⟩
 have h1:=hf j f hj
 have hlt:j<xs.length:=by rw[hxl];exact(Array.getElem?_eq_some_iff.1 hj).1
 rw[List.getElem?_eq_getElem hlt] at h1
 refine⟨n,_,h1,?_⟩
 simp only[DataW.weights,hs] at hw
 refine Zce hw (j:=j) ?_ ?_
 ·rw[List.getElem?_map]
  have:fs.toList[j]?=some f:=by simpa using hj
  rw[this];rfl
 ·rw[List.getElem?_map,List.getElem?_eq_getElem hlt];rfl
theorem ZbS {cs:List Value}{t:TypeId}{o:Nat}(h:Zaf enc P W cs t o)(hu:P.underlying t=some .string)(hc:P.cellsOf t=1):∃s:ByteArray,cs[o]?=some (.string s)∧s.size≤maxLen:=by
 obtain⟨fuel,x,h1,h2⟩:=h
 rw[hc] at h1
 obtain⟨s,h3,_,h4⟩:=DataW.trod_string hu h1
 exact⟨s,Zbj h3,h4⟩
end
theorem ZgV {n:Int}(h:(Lit.int .u32 n).wf=true):0≤n∧n≤4294967295:=by
 simpa [Lit.wf,IntKind.min,IntKind.max,IntKind.signed,IntKind.bits] using h
theorem Zoh {H:Type}{enc:TypeId×Value→H}(W:World):ZcE enc Tryz.prog W 107 OpR (fun _=>True):=by
 intro fuel cs x h hw
 obtain⟨hl,hf⟩:=ZcF Tryz.underlying107 h hw
 have cT:Tryz.prog.cellsOf 107=4:=by kernel_rfl
 rw[cT] at hl
 have f0:Zaf enc Tryz.prog W cs 3 0:=hf 0 _ rfl
 have f1:Zaf enc Tryz.prog W cs 3 1:=hf 1 _ rfl
 have f2:Zaf enc Tryz.prog W cs 3 2:=hf 2 _ rfl
 have f3:Zaf enc Tryz.prog W cs 9 3:=hf 3 _ rfl
 obtain⟨k,h0,_⟩:=f0.int Tryz.underlying3 (by kernel_rfl)
 obtain⟨a,h1,_⟩:=f1.int Tryz.underlying3 (by kernel_rfl)
 obtain⟨b,h2,_⟩:=f2.int Tryz.underlying3 (by kernel_rfl)
 obtain⟨tx,h3,_⟩:=ZbS f3 Tryz.underlying9 (by kernel_rfl)
 refine⟨⟨k,a,b,tx⟩,?_,trivial⟩
 match cs,hl with
 | [a0,a1,a2,a3],_=>
   simp only[List.getElem?_cons_zero,List.getElem?_cons_succ,Option.some.injEq] at h0 h1 h2 h3
   subst h0 h1 h2 h3
   rfl
theorem Zoi {H:Type}{enc:TypeId×Value→H}(W:World):ZcE enc Tryz.prog W 76 PqR (fun d=>d.1.size≤maxLen∧d.2.length*40≤140737488351232):=by
 intro fuel cs x h hw
 obtain⟨hl,hf⟩:=ZcF Tryz.underlying76 h hw
 have cT:Tryz.prog.cellsOf 76=2:=by kernel_rfl
 rw[cT] at hl
 have f0:Zaf enc Tryz.prog W cs 9 0:=hf 0 _ rfl
 have f1:Zaf enc Tryz.prog W cs 74 1:=hf 1 _ rfl
 obtain⟨nm,h0,hn⟩:=ZbS f0 Tryz.underlying9 (by kernel_rfl)
 obtain⟨u,l,h1,hr,hR⟩:=f1.slice (Zby Tryz.underlying74 (by kernel_rfl) (Zoh W)) (by kernel_rfl)
 have hb:Tryz.prog.bytesOf 107=40:=by kernel_rfl
 rw[hb] at hR
 refine⟨(nm,l),⟨u,?_,hr⟩,hn,hR.2⟩
 match cs,hl with
 | [a0,a1],_=>
   simp only[List.getElem?_cons_zero,List.getElem?_cons_succ,Option.some.injEq] at h0 h1
   subst h0 h1
   rfl
def SzR:Rep (Int×Int×Int×Int) where
 size:=4
 pos:=by decide
 rel:=fun _ _ cs d=>cs=[.int .u32 d.1,.int .u32 d.2.1,.int .u32 d.2.2.1,.int .u32 d.2.2.2]
 len:=fun h=>by rw[h];rfl
 one:=fun h u hu=>by
  rw[h] at hu
  simp at hu
  rcases hu with rfl|rfl|rfl|rfl<;>rfl
 keep:=fun h _=>h
theorem ZjP {H:Type}{enc:TypeId×Value→H}(W:World):ZcE enc Tryz.prog W 35 SzR (fun d=>(0≤d.1∧d.1≤4294967295)∧(0≤d.2.1∧d.2.1≤4294967295)∧(0≤d.2.2.1∧d.2.2.1≤4294967295)∧(0≤d.2.2.2∧d.2.2.2≤4294967295)):=by
 intro fuel cs x h hw
 obtain⟨hl,hf⟩:=ZcF Tryz.underlying35 h hw
 have cT:Tryz.prog.cellsOf 35=4:=by kernel_rfl
 rw[cT] at hl
 have f0:Zaf enc Tryz.prog W cs 33 0:=hf 0 _ rfl
 have f1:Zaf enc Tryz.prog W cs 33 1:=hf 1 _ rfl
 have f2:Zaf enc Tryz.prog W cs 33 2:=hf 2 _ rfl
 have f3:Zaf enc Tryz.prog W cs 33 3:=hf 3 _ rfl
 obtain⟨a,h0,b0⟩:=f0.int Tryz.underlying33 (by kernel_rfl)
 obtain⟨b,h1,b1⟩:=f1.int Tryz.underlying33 (by kernel_rfl)
 obtain⟨c,h2,b2⟩:=f2.int Tryz.underlying33 (by kernel_rfl)
 obtain⟨d,h3,b3⟩:=f3.int Tryz.underlying33 (by kernel_rfl)
 refine⟨(a,b,c,d),?_,ZgV b0,ZgV b1,ZgV b2,ZgV b3⟩
 match cs,hl with
 | [a0,a1,a2,a3],_=>
   simp only[List.getElem?_cons_zero,List.getElem?_cons_succ,Option.some.injEq] at h0 h1 h2 h3
   subst h0 h1 h2 h3
   rfl
theorem Zl2 {H:Type}{enc:TypeId×Value→H}(W:World):ZcE enc Tryz.prog W 46 RqR RqRaw:=by
 intro fuel cs x h hw
 obtain⟨hl,hf⟩:=ZcF Tryz.underlying46 h hw
 have cT:Tryz.prog.cellsOf 46=11:=by kernel_rfl
 rw[cT] at hl
 have f0:Zaf enc Tryz.prog W cs 3 0:=hf 0 _ rfl
 have f1:Zaf enc Tryz.prog W cs 9 1:=hf 1 _ rfl
 have f2:Zaf enc Tryz.prog W cs 9 2:=hf 2 _ rfl
 have f3:Zaf enc Tryz.prog W cs 9 3:=hf 3 _ rfl
 have f4:Zaf enc Tryz.prog W cs 35 4:=hf 4 _ rfl
 have f5:Zaf enc Tryz.prog W cs 43 8:=hf 5 _ rfl
 have f6:Zaf enc Tryz.prog W cs 4 9:=hf 6 _ rfl
 have f7:Zaf enc Tryz.prog W cs 33 10:=hf 7 _ rfl
 obtain⟨k,h0,_⟩:=f0.int Tryz.underlying3 (by kernel_rfl)
 obtain⟨tx,h1,-⟩:=ZbS f1 Tryz.underlying9 (by kernel_rfl)
 obtain⟨vl,h2,-⟩:=ZbS f2 Tryz.underlying9 (by kernel_rfl)
 obtain⟨la,h3,-⟩:=ZbS f3 Tryz.underlying9 (by kernel_rfl)
 obtain⟨sz,h4,z1,z2,z3,z4⟩:=f4.opens (ZjP W) (n:=4) (by kernel_rfl)
 obtain⟨u,l,h8,hr,hR⟩:=f5.slice (Zby Tryz.underlying43 (by kernel_rfl) (ZgU Tryz.underlying5)) (by kernel_rfl)
 obtain⟨on,h9⟩:=f6.bool Tryz.underlying4 (by kernel_rfl)
 obtain⟨co,h10,b10⟩:=f7.int Tryz.underlying33 (by kernel_rfl)
 refine⟨⟨k,tx,vl,la,sz.1,sz.2.1,sz.2.2.1,sz.2.2.2,l,on,co⟩,⟨u,?_,hr⟩,⟨fun x hx=>ZsY (hR.1 x hx),z1,z2,z3,z4,ZgV b10⟩⟩
 match cs,hl with
 | [a0,a1,a2,a3,a4,a5,a6,a7,a8,a9,a10],_=>
   have h4: [a4,a5,a6,a7]=[.int .u32 sz.1,.int .u32 sz.2.1,.int .u32 sz.2.2.1,.int .u32 sz.2.2.2]:=h4
   simp only[List.getElem?_cons_zero,List.getElem?_cons_succ,Option.some.injEq] at h0 h1 h2 h3 h8 h9 h10
   simp only[List.cons.injEq,and_true] at h4
   obtain⟨e4,e5,e6,e7⟩:=h4
   subst h0 h1 h2 h3 e4 e5 e6 e7 h8 h9 h10
   rfl
theorem ZeL:ownKnob Tryz.prog.godebug=none:=by kernel_rfl
theorem Zdo (os:Os)(started:os.Started)(H:Type)(enc:TypeId×Value→H):
 ReturnsInHanded {} Tryz.checked os 3 .any (fun w args=>(Rows.topRepliesSpec.pre enc Tryz.prog Tryz.f3 Rows.topRepliesRow.domain false w args∧laidMetH Tryz.prog Rows.topRepliesRow.laid w)∧sizedMet enc Tryz.prog Tryz.f3 (OpenSpec.ofChange Rows.topRepliesSpec) false w args)
  (Rows.topRepliesSpec.post enc Tryz.prog Tryz.f3 false true false false):=by
 refine returnsInHanded_of_change_and (C:=Tryz.checked) (X:=fun w _=>laidMetH Tryz.prog Rows.topRepliesRow.laid w) (fun _ _ _ hh h=>h.of_heap hh) ZeL started (by kernel_rfl) Tryz.func3
  (ChangeSpec.witness_shaped (enc:=enc) (C:=Tryz.checked) (os:=os) (X:=fun w _=>laidMetH Tryz.prog Rows.topRepliesRow.laid w) false (World.laidAll Tryz.prog os Rows.topRepliesRow.laid) #[.slice none 0 0,.slice none 0 0] 8 (World.laidAll_os _ _ _)
    (World.shaped_of_ZipB (by kernel_rfl) (by kernel_rfl)) (by kernel_rfl) (by kernel_rfl) (by kernel_rfl)
    (by rw[MakeChecks.laidMetH_plain _ _ _ (by kernel_rfl)];exact laidMet_laidAll _ (by kernel_rfl) (by kernel_rfl))) ?_
 intro W base args ds gs before hval0 hW _ hsz0 _ _
 have hsz:(DataW.weightsEach Tryz.prog (Tryz.f3.params.toList++Rows.topRepliesSpec.plain.varTypes Tryz.prog) (ds++gs)).all (· ≤reachBytes)=true:=hsz0
 clear hsz0
 have hval:∀ (j:Nat) t v,Tryz.f3.params[j]?=some t→args[j]?=some v→Value.okWide Tryz.prog W .any base t v:=hval0
 have hW':=hW
 obtain⟨p,q,hA0,hV,rfl,_,_⟩:=hW
 have hA:DataW.TrodAll enc Tryz.prog W 0 (fun _=>true) true Tryz.f3.params.toList args.toList ds p:=hA0
 rw[Tryz.params3] at hA hval hsz
 obtain⟨rfl,rfl⟩:=trodVars_none hV
 have hkeep:=hA
 have hlt:∀x∈p,x.block<W.heap.size:=fun x hx=>hW'.lt x (by simpa using hx)
 clear hA0 hval0
 obtain⟨v0,vs0,d0,ds0,p0,q0,hargs,rfl,rfl,h0,r0⟩:=trodAll_cons hA
 obtain⟨v1,vs1,d1,ds1,p1,q1,rfl,rfl,rfl,h1,r1⟩:=trodAll_cons r0
 obtain⟨rfl,rfl,rfl⟩:=trodAll_nil r1
 obtain rfl:args=#[v0,v1]:=by cases args;simp_all
 simp only[List.cons_append,List.nil_append,DataW.weightsEach,List.all_append,Bool.and_eq_true] at hsz
 obtain⟨l,hl,hR,hB⟩:=(Zby (enc:=enc) (P:=Tryz.prog) (W:=W) Tryz.underlying22 (by kernel_rfl) (Zoi W)).slice Tryz.underlying22 (hval 0 22 v0 rfl rfl) h0 hsz.1
 obtain⟨rs,hs,hS,-⟩:=(Zby (enc:=enc) (P:=Tryz.prog) (W:=W) Tryz.underlying23 (by kernel_rfl) (Zl2 W)).slice Tryz.underlying23 (hval 1 23 v1 rfl rfl) h1 hsz.2.1
 have hb:Tryz.prog.bytesOf 76=40:=by kernel_rfl
 rw[hb] at hB
 refine(ZeD v0 v1 l rs W hl.y ⟨hB,fun d hd=>(hR d hd).2⟩ (fun d hd=>by have:=(hR d hd).1;unfold maxLen at this;omega) hs.y hS).mono fun e W' ⟨he,hE⟩=>?_
 subst he
 exact⟨_,rfl,_,_,_,[],_,[],hW',trodAll_mk1 (shut_bool Tryz.underlying4 _),ZcD (by kernel_rfl) (by kernel_rfl) hkeep hE hlt,rfl,hE.frame _,fun h=>by cases h⟩
theorem ZeM:Rows.TopRepliesSaid:=
 OpenClaim.holds_of_wide 3 Tryz.f3 rfl rfl rfl rfl rfl rfl rfl ⟨rfl,rfl,rfl,rfl,rfl⟩ rfl rfl rfl rfl rfl ZbR Tryz.func3 ZdJ
  (of_decide_eq_true (by kernel_rfl)) ZeF
  (fun os started H enc _=>Zdo os started H enc)
theorem topReplies_holds:Rows.TopRepliesCardSaid:=
 Claim7.holds_tied_plain_at .later [] [.data,.pinned] true Rows.topRepliesCard.stood.harness false ZeM (fun _ h=>by cases h) topReplies_wft (fun _ h=>by cases h) topReplies_row_tie rfl ⟨rfl,rfl⟩ topReplies_main rfl
  (fun f fn hf hfn=>by
    obtain rfl:f=3:=Option.some.inj (ZbR.symm.trans hf)|>.symm
    obtain rfl:fn=Tryz.f3:=(Option.some.inj (Tryz.func3.symm.trans hfn)).symm
    exact⟨ZdK,fun j t ht=>by
     rw[Tryz.params3] at ht
     have hm:=Array.mem_of_getElem? ht
     have hall:∀u∈Tryz.f3.params,Tryz.prog.wantsStandIn u=false:=by
      have h9:Tryz.f3.params.all (fun u=>!Tryz.prog.wantsStandIn u)=true:=by kernel_rfl
      intro u hu
      have:=Array.all_eq_true_iff_forall_mem.1 h9 u hu
      simpa using this
     rw[Tryz.params3] at hall
     exact hall t hm⟩)
  ZeE
#print axioms topReplies_holds
end Go.Proofs.YtmmhcllibpmfnaaGreatDoor
