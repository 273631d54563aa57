/- Parts VB28 RA28 VC28 DA28. No condition. -/
import Derived.Test.YtmmhcllibpmfnaaGreatDoorYB07
import Derived.Test.YtmmhcllibpmfnaaGreatDoorYB12
import Derived.Test.YtmmhcllibpmfnaaGreatDoorYB14
set_option maxRecDepth 100000
set_option maxHeartbeats 8000000
namespace Go.Proofs.YtmmhcllibpmfnaaGreatDoor
open Go.RowKit Go.Kb
theorem rdy_kf {A B:Nat→Prop}{w:World}{v:Value}{l:List Int}(h:RdY KfR A w v l):RdY KfR B w v l:=by
 obtain⟨us,hr,he,h2⟩:=h
 exact⟨us,hr,he,h2⟩
theorem ZlI:(Tryz.prog.info? 86).map (fun i=>(i.zero,i.size,i.bytes))=some (some (.agg #[.int .i64 0,.int .u32 0,.slice none 0 0,.slice none 0 0]),KfR.size,64):=by kernel_rfl
theorem ZbQ (n:Int)(w:World):Calls Tryz.prog 131 #[.int .u32 n] w fun e w'=>e= .returned (.agg (fdA 3 n (.slice none 0 0)))∧Ext w w':=by
 have hiF:=zi Tryz.prog 86 4
 go_enter Tryz.func131,Tryz.ntmps131
 go_wp2_with(refine wpList_store_A rfl 86 _ _ rfl w.heap.size _ rfl rfl 86 _ (Blk.at_ _ _ rfl) hiF rfl (by simp[Value.oneCell']) ?_;intro w2 H2 E2;have E2:Ext w w2:=E2 w.heap.size w zX (Nat.le_refl _))
 refine bodyPost_ret_by (results_cell_row Tryz.results131 _ _ w.heap.size 86 _ _ _ rfl H2 Tryz.underlying86 rfl hiF) rfl ?_
 exact⟨rfl,E2⟩
theorem ZlJ (w:World):Calls Tryz.prog 130 #[.bool false] w fun e w'=>e= .returned (.agg (fdA 2 0 (.slice none 0 0)))∧Ext w w':=by
 have hiF:=zi Tryz.prog 86 4
 go_enter Tryz.func130,Tryz.ntmps130
 go_wp2_with(refine wpList_store_A rfl 86 _ _ rfl w.heap.size _ rfl rfl 86 _ (Blk.at_ _ _ rfl) hiF rfl (by simp[Value.oneCell']) ?_;intro w2 H2 E2;have E2:Ext w w2:=E2 w.heap.size w zX (Nat.le_refl _))
 refine bodyPost_ret_by (results_cell_row Tryz.results130 _ _ w.heap.size 86 _ _ _ rfl H2 Tryz.underlying86 rfl hiF) rfl ?_
 exact⟨rfl,E2⟩
theorem Zcm (w:World):Calls Tryz.prog 128 #[.string ⟨#[]⟩] w fun e w'=>∃v:Value,e= .returned (.agg (fdA 4 0 v))∧v.oneCell'=true∧Ext w w':=by
 have hiF:=zi Tryz.prog 86 4
 have HCV:∀ (b:ByteArray) w',(convert 9 43 (.string b)).run Tryz.prog w'=_:=fun b w'=>run_bytes_of_string w' 9 43 5 b Tryz.underlying9 Tryz.underlying43 Tryz.underlying5
 have B0:=zh (Blk.new w 86 #[.int .i64 0,.int .u32 0,.slice none 0 0,.slice none 0 0])
 go_enter Tryz.func128,Tryz.ntmps128
 go_wp2_with(refine wpList_store_row rfl 86 _ _ rfl w.heap.size _ rfl rfl 86 _ (B0.out.ext zX) hiF rfl (by simp[Value.oneCell']) ?_)
 refine bodyPost_ret_by (results_cell_row Tryz.results128 _ _ w.heap.size 86 _ _ _ rfl (Blk.setRow (B0.out.ext zX) _) Tryz.underlying86 rfl hiF) rfl ?_
 exact⟨_,rfl,rfl,Zah (show Below w.heap.size w _ from zX) (Nat.le_refl _) _⟩
def Zn9 (ks:List Int)(w:World)(e:Ending)(w':World):Prop:=∃Ad c,e= .returned (.slice Ad ks.length c)∧RdY KfR (fun _=>False) w' (.slice Ad ks.length c) ks∧Ext w w'
theorem ZlK (w:World):Calls Tryz.prog 129 #[.agg #[.int .u32 0,.int .u32 0,.int .u32 0,.int .u32 0]] w (Zn9 [3,3,3,3] w):=by
 obtain⟨W1,hW1⟩:=zn (w.alloc (.cells #[.int .u32 0,.int .u32 0,.int .u32 0,.int .u32 0] 35))
 have E1:Ext w W1:=by rw[hW1];exact(Ext.refl _).alloc _
 have B1:=zh (show Blk W1 w.heap.size 35 #[.int .u32 0,.int .u32 0,.int .u32 0,.int .u32 0] by rw[hW1];exact Blk.new _ _ _)
 have HW1:=zh hW1
 have q0:=B1.out.cell 0
 have q1:=B1.out.cell 1
 have q2:=B1.out.cell 2
 have q3:=B1.out.cell 3
 simp only[zG] at q0 q1 q2 q3
 clear hW1
 go_enter Tryz.func129,Tryz.ntmps129
 go_upto_region 1 with fail
 rw[←HW1.out]
 clear HW1
 refine zg (fun w'=>Ext W1 w') zX fun hHeld=>?_
 obtain⟨D,hD⟩:=zn (W1.drew)
 have ED:Ext W1 D:=by rw[hD];exact(Ext.refl _).drew
 rw[←hD] at hHeld⊢
 clear hD
 refine zr 0 ?_
 refine zv 1 q0 ?_
 refine zr 3 ?_
 refine zv 4 q1 ?_
 refine zr 6 ?_
 refine zv 7 q2 ?_
 refine zr 9 ?_
 refine zv 10 q3 ?_
 (refine zc 2 (ZbQ _ _) ?_;rintro e w2 ⟨rfl,E2⟩ K hK;refine zo hK zX fun hHeld=>?_;clear hK K)
 (refine zc 5 (ZbQ _ _) ?_;rintro e w3 ⟨rfl,E3⟩ K hK;refine zo hK zX fun hHeld=>?_;clear hK K)
 (refine zc 8 (ZbQ _ _) ?_;rintro e w4 ⟨rfl,E4⟩ K hK;refine zo hK zX fun hHeld=>?_;clear hK K)
 (refine zc 11 (ZbQ _ _) ?_;rintro e w5 ⟨rfl,E5⟩ K hK;refine zo hK zX fun hHeld=>?_;clear hK K)
 (refine ze 12 fun hHeld=>?_)
 refine zr 13 ?_
 refine zd ?_
 go_wp2
 go_ret
 refine⟨_,_,rfl,rdy_kf (RdS.y (RdS.litB (e:=KfR) (A:=fun _=>True) (cs:=(fdA 3 0 (.slice none 0 0)).toList++ (fdA 3 0 (.slice none 0 0)).toList++ (fdA 3 0 (.slice none 0 0)).toList++ (fdA 3 0 (.slice none 0 0)).toList) ((((kfE 3 0 _ rfl).append (kfE 3 0 _ rfl)).append (kfE 3 0 _ rfl)).append (kfE 3 0 _ rfl)) (Blk.new _ _ _) rfl (by decide))),zX⟩
theorem ZsT (w:World):Calls Tryz.prog 62 #[.agg (rqA (rq0 2) (.slice none 0 0))] w (Zn9 (kindsQ 2) w):=by
 obtain⟨W1,hW1⟩:=zn (w.alloc (.cells (rqA (rq0 2) (.slice none 0 0)) 46))
 have E1:Ext w W1:=by rw[hW1];exact(Ext.refl _).alloc _
 have B1:=zh (show Blk W1 w.heap.size 46 (rqA (rq0 2) (.slice none 0 0)) by rw[hW1];exact Blk.new _ _ _)
 have HW1:=zh hW1
 have q0:=B1.out.cell 0
 have q1:=B1.out.cell 1
 have q2:=B1.out.cell 2
 simp only[rq0,List.getElem?_toArray,List.getElem?_cons_zero,List.getElem?_cons_succ] at q0 q1 q2
 clear hW1
 go_enter Tryz.func62,Tryz.ntmps62
 go_upto_region 1 with fail
 rw[←HW1.out]
 clear HW1
 go_upto_region 5 with fail
 refine zg (fun w'=>Ext W1 w') zX fun hHeld=>?_
 obtain⟨D,hD⟩:=zn (W1.drew)
 have ED:Ext W1 D:=by rw[hD];exact(Ext.refl _).drew
 rw[←hD] at hHeld⊢
 clear hD
 refine zr 0 ?_
 refine zv 1 q1 ?_
 refine zr 3 ?_
 refine zv 4 q2 ?_
 (refine zc 2 (Zcm _) ?_;rintro e w2 ⟨v0,rfl,hv0,E2⟩ K hK;refine zo hK zX fun hHeld=>?_;clear hK K)
 (refine zc 5 (Zcm _) ?_;rintro e w3 ⟨v1,rfl,hv1,E3⟩ K hK;refine zo hK zX fun hHeld=>?_;clear hK K)
 (refine ze 6 fun hHeld=>?_)
 refine zr 7 ?_
 refine zd ?_
 go_wp2
 go_ret
 refine⟨_,_,rfl,rdy_kf (RdS.y (RdS.litB (e:=KfR) (A:=fun _=>True) (cs:=(fdA 4 0 v0).toList++ (fdA 4 0 v1).toList) ((kfE 4 0 _ hv0).append (kfE 4 0 _ hv1)) (Blk.new _ _ _) rfl (by decide))),zX⟩
theorem Zr4 (w:World):Calls Tryz.prog 62 #[.agg (rqA (rq0 10) (.slice none 0 0))] w (Zn9 (kindsQ 10) w):=by
 obtain⟨W1,hW1⟩:=zn (w.alloc (.cells (rqA (rq0 10) (.slice none 0 0)) 46))
 have E1:Ext w W1:=by rw[hW1];exact(Ext.refl _).alloc _
 have B1:=zh (show Blk W1 w.heap.size 46 (rqA (rq0 10) (.slice none 0 0)) by rw[hW1];exact Blk.new _ _ _)
 have HW1:=zh hW1
 have q0:=B1.out.cell 0
 have q1:=B1.out.cell 1
 have q9:=B1.out.cell 9
 have q2:=B1.out.cell 2
 have q3:=B1.out.cell 3
 simp only[rq0,List.getElem?_toArray,List.getElem?_cons_zero,List.getElem?_cons_succ] at q0 q1 q9 q2 q3
 clear hW1
 go_enter Tryz.func62,Tryz.ntmps62
 go_upto_region 1 with fail
 rw[←HW1.out]
 clear HW1
 go_upto_region 17 with fail
 refine zg (fun w'=>Ext W1 w') zX fun hHeld=>?_
 obtain⟨D,hD⟩:=zn (W1.drew)
 have ED:Ext W1 D:=by rw[hD];exact(Ext.refl _).drew
 rw[←hD] at hHeld⊢
 clear hD
 refine zr 0 ?_
 refine zv 1 q1 ?_
 refine zr 3 ?_
 refine zv 4 q9 ?_
 refine zr 6 ?_
 refine zv 7 q2 ?_
 refine zr 9 ?_
 refine zv 10 q3 ?_
 (refine zc 2 (Zcm _) ?_;rintro e w2 ⟨v0,rfl,hv0,E2⟩ K hK;refine zo hK zX fun hHeld=>?_;clear hK K)
 (refine zc 5 (ZlJ _) ?_;rintro e w3 ⟨rfl,E3⟩ K hK;refine zo hK zX fun hHeld=>?_;clear hK K)
 (refine zc 8 (Zcm _) ?_;rintro e w4 ⟨v2,rfl,hv2,E4⟩ K hK;refine zo hK zX fun hHeld=>?_;clear hK K)
 (refine zc 11 (Zcm _) ?_;rintro e w5 ⟨v3,rfl,hv3,E5⟩ K hK;refine zo hK zX fun hHeld=>?_;clear hK K)
 (refine ze 12 fun hHeld=>?_)
 refine zr 13 ?_
 refine zd ?_
 go_wp2
 go_ret
 refine⟨_,_,rfl,rdy_kf (RdS.y (RdS.litB (e:=KfR) (A:=fun _=>True) (cs:=(fdA 4 0 v0).toList++ (fdA 2 0 (.slice none 0 0)).toList++ (fdA 4 0 v2).toList++ (fdA 4 0 v3).toList) ((((kfE 4 0 _ hv0).append (kfE 2 0 _ rfl)).append (kfE 4 0 _ hv2)).append (kfE 4 0 _ hv3)) (Blk.new _ _ _) rfl (by decide))),zX⟩
theorem ZlL (k:Nat)(hk:k=4∨k=5∨k=8∨k=7∨k=9)(w:World):Calls Tryz.prog 62 #[.agg (rqA (rq0 k) (.slice none 0 0))] w (Zn9 (kindsQ k) w):=by
 rcases hk with rfl|rfl|rfl|rfl|rfl
 all_goals
  obtain⟨W1,hW1⟩:=zn (w.alloc (.cells (rqA (rq0 _) (.slice none 0 0)) 46))
  have E1:Ext w W1:=by rw[hW1];exact(Ext.refl _).alloc _
  have B1:=zh (show Blk W1 w.heap.size 46 _ by rw[hW1];exact Blk.new _ _ _)
  have HW1:=zh hW1
  have q0:=B1.out.cell 0
  have q1:=B1.out.cell 1
  have q9:=B1.out.cell 9
  have q10:=B1.out.cell 10
  simp only[rq0,List.getElem?_toArray,List.getElem?_cons_zero,List.getElem?_cons_succ] at q0 q1 q9 q10
  clear hW1
  go_enter Tryz.func62,Tryz.ntmps62
  go_upto_region 1 with fail
  rw[←HW1.out]
  clear HW1
  go_wp2_with fail
  first
  |(refine(Zcm _).mono ?_;rintro e w2 ⟨v0,rfl,hv0,E2⟩;go_wp2;go_ret;exact⟨_,_,rfl,rdy_kf (RdS.y (RdS.litB (e:=KfR) (A:=fun _=>True) (cs:=(fdA 4 0 v0).toList) (kfE 4 0 _ hv0) (Blk.new _ _ _) rfl (by decide))),zX⟩)
  |(refine(ZlJ _).mono ?_;rintro e w2 ⟨rfl,E2⟩;go_wp2;go_ret;exact⟨_,_,rfl,rdy_kf (RdS.y (RdS.litB (e:=KfR) (A:=fun _=>True) (cs:=(fdA 2 0 (.slice none 0 0)).toList) (kfE 2 0 _ rfl) (Blk.new _ _ _) rfl (by decide))),zX⟩)
  |(refine(ZbQ _ _).mono ?_;rintro e w2 ⟨rfl,E2⟩;go_wp2;go_ret;exact⟨_,_,rfl,rdy_kf (RdS.y (RdS.litB (e:=KfR) (A:=fun _=>True) (cs:=(fdA 3 0 (.slice none 0 0)).toList) (kfE 3 0 _ rfl) (Blk.new _ _ _) rfl (by decide))),zX⟩)
theorem ZsU (w:World):Calls Tryz.prog 62 #[.agg (rqA (rq0 3) (.slice none 0 0))] w (Zn9 (kindsQ 3) w):=by
 obtain⟨W1,hW1⟩:=zn (w.alloc (.cells (rqA (rq0 3) (.slice none 0 0)) 46))
 have E1:Ext w W1:=by rw[hW1];exact(Ext.refl _).alloc _
 have B1:=zh (show Blk W1 w.heap.size 46 (rqA (rq0 3) (.slice none 0 0)) by rw[hW1];exact Blk.new _ _ _)
 have HW1:=zh hW1
 have q0:=B1.out.cell 0
 simp only[rq0,List.getElem?_toArray,List.getElem?_cons_zero] at q0
 clear hW1
 go_enter Tryz.func62,Tryz.ntmps62
 go_upto_region 1 with fail
 rw[←HW1.out]
 clear HW1
 go_wp2
 go_ret
 exact⟨none,0,rfl,RdS.y (RdS.nil _ _ _),E1⟩
theorem ZsV (w:World):Calls Tryz.prog 62 #[.agg (rqA (rq0 6) (.slice none 0 0))] w (Zn9 (kindsQ 6) w):=by
 obtain⟨W1,hW1⟩:=zn (w.alloc (.cells (rqA (rq0 6) (.slice none 0 0)) 46))
 have E1:Ext w W1:=by rw[hW1];exact(Ext.refl _).alloc _
 have B1:=zh (show Blk W1 w.heap.size 46 (rqA (rq0 6) (.slice none 0 0)) by rw[hW1];exact Blk.new _ _ _)
 have HW1:=zh hW1
 have q0:=B1.out.cell 0
 simp only[rq0,List.getElem?_toArray,List.getElem?_cons_zero] at q0
 clear hW1
 go_enter Tryz.func62,Tryz.ntmps62
 go_upto_region 1 with fail
 rw[←HW1.out]
 clear HW1
 have hiZ:=zi Tryz.prog 35 4
 have hLP:∀w',Ext W1 w'→w'.rangeAt w.heap.size 4 [.int .u32 0,.int .u32 0,.int .u32 0,.int .u32 0]:=fun w' E i u hu=>by
  rw[(B1.out.ext E).cell]
  rcases i with _|_|_|_|i
  ·exact hu
  ·exact hu
  ·exact hu
  ·exact hu
  ·simp at hu
 go_wp2_with(first|(refine wpList_load_mid rfl 35 _ rfl w.heap.size 4 rfl [.int .u32 0,.int .u32 0,.int .u32 0,.int .u32 0] _ (hLP _ (Ext.refl _)) Tryz.underlying35 rfl hiZ ?_)|fail)
 refine(ZlK _).mono ?_
 rintro e w2 ⟨A2,c2,rfl,R2,E2⟩
 have R2:=zh R2
 clear hLP
 go_wp2
 go_ret
 exact⟨A2,c2,rfl,R2.out,E1.trans E2⟩
theorem ZsW (w:World):Calls Tryz.prog 62 #[.agg (rqA (rq0 1) (.slice none 0 0))] w (Zn9 (kindsQ 1) w):=by
 obtain⟨W1,hW1⟩:=zn (w.alloc (.cells (rqA (rq0 1) (.slice none 0 0)) 46))
 have E1:Ext w W1:=by rw[hW1];exact(Ext.refl _).alloc _
 have B1:=zh (show Blk W1 w.heap.size 46 (rqA (rq0 1) (.slice none 0 0)) by rw[hW1];exact Blk.new _ _ _)
 have HW1:=zh hW1
 have q0:=B1.out.cell 0
 have q1:=B1.out.cell 1
 have q8:=B1.out.cell 8
 simp only[rq0,List.getElem?_toArray,List.getElem?_cons_zero,List.getElem?_cons_succ] at q0 q1 q8
 clear hW1
 go_enter Tryz.func62,Tryz.ntmps62
 go_upto_region 1 with fail
 rw[←HW1.out]
 clear HW1
 have hiZ:=zi Tryz.prog 35 4
 have hLP:∀w',Ext W1 w'→w'.rangeAt w.heap.size 4 [.int .u32 0,.int .u32 0,.int .u32 0,.int .u32 0]:=fun w' E i u hu=>by
  rw[(B1.out.ext E).cell]
  rcases i with _|_|_|_|i
  ·exact hu
  ·exact hu
  ·exact hu
  ·exact hu
  ·simp at hu
 go_upto_region 3 with fail
 refine zg (fun w'=>Ext W1 w') zX fun hHeld=>?_
 have EH:Ext W1 W1.drew:=Ext.drew (Ext.refl _)
 obtain⟨wc,hD⟩:=zn (W1.drew)
 rw[←hD] at hHeld EH⊢
 clear hD
 refine zr 0 ?_
 refine zv 1 q1 ?_
 refine zr 4 ?_
 (refine zU 5 rfl (yieldsIf_load_mid (by rfl) 35 _ rfl _ _ rfl [.int .u32 0,.int .u32 0,.int .u32 0,.int .u32 0] _ (fun w' hSw=>(fun i u hu=>hLP w' hSw i u hu)) Tryz.underlying35 rfl hiZ) ?_)
 refine zr 8 ?_
 refine zv 9 q8 ?_
 (refine zU 10 (v:=.agg (fdA 4 0 (.slice none 0 0))) rfl (Zae (by rfl) 86 _ rfl (by simp[go_sem];exact(by kernel_rfl))) ?_)
 clear hHeld
 iterate 6
  all_goals (first|refine wpAnyH_ready (rs:=[12]) (by decide+kernel) (by simp) ?_|refine wpAnyH_ready (rs:=[7]) (by decide+kernel) (by simp) ?_|refine wpAnyH_ready (rs:=[11]) (by decide+kernel) (by simp) ?_|refine wpAnyH_ready (rs:=[7,11]) (by decide+kernel) (by simp) ?_|refine wpAnyH_ready (rs:=[3]) (by decide+kernel) (by simp) ?_|refine wpAnyH_ready (rs:=[6]) (by decide+kernel) (by simp) ?_|refine wpAnyH_ready (rs:=[3,6]) (by decide+kernel) (by simp) ?_|refine wpAnyH_ready (rs:=[3,11]) (by decide+kernel) (by simp) ?_|refine wpAnyH_ready (rs:=[6,11]) (by decide+kernel) (by simp) ?_|refine wpAnyH_ready (rs:=[2]) (by decide+kernel) (by simp) ?_|refine wpAnyH_ready (rs:=[2,11]) (by decide+kernel) (by simp) ?_|refine wpAnyH_ready (rs:=[3,6,11]) (by decide+kernel) (by simp) ?_)
  all_goals (repeat' (first|exact AllReadyH.nil|refine AllReadyH.cons rfl (fun K hK=>?_) ?_))
  all_goals (first
   |(go_simp;go_at_call 128;refine(Zcm _).mono ?_;rintro e wc ⟨v0,rfl,hv0,E3⟩;(try dsimp only);refine hK.out _ _ (EH.trans E3) (fun hHeld=>?_);clear hK K hHeld;(try simp only[zP]);(try have R11:=zh (R11.out.ext E3));(try have B11:=zh (B11.out.ext E3));have EH:=EH.trans E3;clear E3)
   |(go_simp;go_at_call 129;refine(ZlK _).mono ?_;rintro e wc ⟨A6,c6,rfl,R6,E3⟩;(try dsimp only);refine hK.out _ _ (EH.trans E3) (fun hHeld=>?_);clear hK K hHeld;(try simp only[zP]);have R6:=zh R6;(try have O3:=zh (O3.out.ext E3));(try have R11:=zh (R11.out.ext E3));(try have B11:=zh (B11.out.ext E3));have EH:=EH.trans E3;clear E3)
   |(refine ZaE (e:=KfR) (base:=W1.heap.size) (B:=fun _=>False) (A:=fun _=>False) rfl (.tmp 10) (.tmp 13) rfl Tryz.underlying87 ZlI rfl O3.out rfl R6.out rfl (fun _ _ h=>h.elim) (N:=5) rfl (by unfold maxLen;omega) (by omega) EH.size ?_;intro A7 c7 wc o9 M9 X9;have hrw:=O3.out.row;have EN:Ext W1 wc:=Mod.toExt EH M9 (fun k hk he=>by have:=(hrw k he).1;omega);refine hK.out _ _ EN (fun hHeld=>?_);clear hK K hHeld;(try simp only[zP]);have O7:=zh o9;have EH:=EN;(try(have B11:=zh (B11.out.mod M9 (fun h9=>hne39 (Option.some.inj h9)));have R11:=zh (show RdY KfR (fun _=>False) wc (.slice (some ⟨n11,0,none⟩) 1 1) [4] from RdY.singleB (e:=KfR) (cs:=(fdA 4 0 (.slice none 0 0)).toList) (d:=4) ⟨_,_,_,rfl,rfl,rfl,rfl⟩ B11.out)));clear EN M9 X9 hrw)
   |(refine ZaE (e:=KfR) (base:=W1.heap.size) (B:=fun _=>False) (A:=fun _=>False) rfl (.tmp 14) (.tmp 18) rfl Tryz.underlying87 ZlI rfl O7.out rfl R11.out rfl (fun _ _ h=>h.elim) (N:=6) rfl (by unfold maxLen;omega) (by omega) EH.size ?_;intro A12 c12 wc o9 M9 X9;have hrw:=O7.out.row;have EN:Ext W1 wc:=Mod.toExt EH M9 (fun k hk he=>by have:=(hrw k he).1;omega);refine hK.out _ _ EN (fun hHeld=>?_);clear hK K hHeld;(try simp only[zP]);have O12:=zh o9;have EH:=EN;have hHeld:Ext W1 wc:=EH;clear EN M9 X9 hrw)
   |(go_simp;refine hK.out _ _ (EH.alloc (.cells #[.int .i64 4,.int .u32 0,v0,.slice none 0 0] 86)) (fun hHeld=>?_);clear hK K hHeld;(try simp only[zP]);have O3:=zh (show OwnS KfR 86 W1.heap.size (fun _=>False) (wc.alloc (.cells #[.int .i64 4,.int .u32 0,v0,.slice none 0 0] 86)) (.slice (some ⟨wc.heap.size,0,none⟩) 1 1) [4] from OwnS.litB (A:=fun _=>False) (cs:=(fdA 4 0 v0).toList) (kfE 4 0 _ hv0) (Blk.new _ _ _) (fun k _ h=>h.elim) EH.size rfl (by omega));have EX:=(Ext.refl wc).alloc (.cells #[.int .i64 4,.int .u32 0,v0,.slice none 0 0] 86);(try have R6:=zh (R6.out.ext EX));(try have hlt9:=B11.out.lt);(try have B11:=zh (B11.out.ext EX));(try have R11:=zh (R11.out.ext EX));have EH:=EH.trans EX;clear EX;obtain⟨n3,hn3⟩:=zm (wc.heap.size);rw[hn3] at O3⊢;(try have hne39:¬n3=n11:=by omega);(try clear hlt9);clear hn3;generalize wc.alloc _=wc at*)
   |(go_simp;refine hK.out _ _ (EH.alloc (.cells #[.int .i64 4,.int .u32 0,.slice none 0 0,.slice none 0 0] 86)) (fun hHeld=>?_);clear hK K hHeld;(try simp only[zP]);have R11:=zh (show RdY KfR (fun _=>False) (wc.alloc (.cells #[.int .i64 4,.int .u32 0,.slice none 0 0,.slice none 0 0] 86)) (.slice (some ⟨wc.heap.size,0,none⟩) 1 1) [4] from RdY.singleB (e:=KfR) (cs:=(fdA 4 0 (.slice none 0 0)).toList) (d:=4) ⟨_,_,_,rfl,rfl,rfl,rfl⟩ (Blk.new _ _ _));have B11:=zh (Blk.new wc 86 #[.int .i64 4,.int .u32 0,.slice none 0 0,.slice none 0 0]);have EX:=(Ext.refl wc).alloc (.cells #[.int .i64 4,.int .u32 0,.slice none 0 0,.slice none 0 0] 86);(try have R6:=zh (R6.out.ext EX));(try have hlt9:=(O3.out.row n3 rfl).2);(try have O3:=zh (O3.out.ext EX));(try have O7:=zh (O7.out.ext EX));have EH:=EH.trans EX;clear EX;obtain⟨n11,hn11⟩:=zm (wc.heap.size);rw[hn11] at R11 B11⊢;(try have hne39:¬n3=n11:=by omega);(try clear hlt9);clear hn11;generalize wc.alloc _=wc at*))
 all_goals
  refine zr 13 ?_
  refine zd ?_
  go_wp2
  go_ret
  exact⟨_,_,rfl,rdy_kf O12.out.rdT.y,E1.trans EH⟩
theorem Zoa (k:Nat)(h1:1≤k)(h10:k≤10)(w:World):Calls Tryz.prog 62 #[.agg (rqA (rq0 k) (.slice none 0 0))] w (Zn9 (kindsQ k) w):=by
 rcases k with _|_|_|_|_|_|_|_|_|_|_|k
 ·omega
 ·exact ZsW w
 ·exact ZsT w
 ·exact ZsU w
 ·exact ZlL 4 (by decide) w
 ·exact ZlL 5 (by decide) w
 ·exact ZsV w
 ·exact ZlL 7 (by decide) w
 ·exact ZlL 8 (by decide) w
 ·exact ZlL 9 (by decide) w
 ·exact Zr4 w
 ·omega
end Go.Proofs.YtmmhcllibpmfnaaGreatDoor
namespace Go.Proofs.YtmmhcllibpmfnaaGreatDoor
open Go.RowKit Go.Kb Go.Kb.Frame
theorem Zr5 (v:Value)(n:Int)(r:List Int)(w:World)(h:RI .u8 w v (n::r))(hn:0≤n∧n≤1):Calls Tryz.prog 133 #[.int .i64 2,v] w (Zcz 2 n [] w):=by
 have hiF:=zi Tryz.prog 86 4
 obtain⟨W1,hW1⟩:=zn ((w.alloc (.cells #[.int .i64 0,.int .u32 0,.slice none 0 0,.slice none 0 0] 86)).alloc (.cells #[.int .i64 2,.int .u32 0,.slice none 0 0,.slice none 0 0] 86))
 have E1:Ext w W1:=by rw[hW1];exact((Ext.refl _).alloc _).alloc _
 have B4:=zh (show Blk W1 w.heap.size 86 #[.int .i64 0,.int .u32 0,.slice none 0 0,.slice none 0 0] by rw[hW1];exact(Blk.new w _ _).alloc _)
 have B7:=zh (show Blk W1 (w.heap.size+1) 86 #[.int .i64 2,.int .u32 0,.slice none 0 0,.slice none 0 0] by rw[hW1];exact Blk.at_ _ _ (by simp))
 have HW1:=zh hW1
 obtain⟨A,c,rfl,hc1,hc2⟩:=h.shape
 obtain⟨n4,hn4⟩:=zm (w.heap.size)
 have HN4:=zh hn4
 rw[hn4] at B4 B7
 clear hW1 hn4
 obtain⟨L,hL⟩:=zm ((n::r).length)
 have hL0:¬(L:Int)<1:=by rw[←hL];simp;omega
 have HX:=zh (h.ext E1)
 rw[hL] at hc1⊢
 obtain⟨b,off,cc,hv,-,-,hcell⟩:=HX.out.form (by simp)
 simp only[Value.slice.injEq] at hv
 obtain⟨rfl,-,rfl⟩:=hv
 have kx:=hcell 0 (.int .u8 n) rfl
 rw[Nat.add_zero] at kx
 have hw:IntKind.u32.wrap n=n:=by rw[IntKind.wrap_u32];omega
 clear hcell h hL
 go_enter Tryz.func133,Tryz.ntmps133
 go_upto_region 2 with fail
 rw[←HW1.out,HN4.out]
 clear HW1
 have q7:=B7.out.cell 1
 have f7:=B7.out.frozen 1
 simp only[zG] at q7
 go_upto_region 9 with fail
 have B8:=zh (show Blk (W1.setCell ⟨n4+1,1,none⟩ (.int .u32 n)) (n4+1) 86 #[.int .i64 2,.int .u32 n,.slice none 0 0,.slice none 0 0] by simpa using B7.out.set_ 1 (.int .u32 n))
 have q8:=B8.out.cell 1
 have f8:=B8.out.frozen 1
 simp only[zG] at q8
 obtain⟨W2,hW2⟩:=zn (W1.setCell ⟨n4+1,1,none⟩ (.int .u32 n))
 have M2:Mod (fun k=>k=n4+1) W1 W2:=by rw[hW2];exact(Mod.refl (fun k=>k=n4+1) W1).set1 _
 have B4:=zh (show Blk W2 n4 86 _ by rw[hW2];exact B4.out.far (p:=⟨n4+1,1,none⟩) (by simp) (.int .u32 n))
 rw[←hW2] at B8 q8 f8⊢
 clear hW2 q7 f7 B7
 have hmin:min n 1=n:=by omega
 go_upto_region 10 with fail
 have B7:=zh (show Blk (W2.setCell ⟨n4+1,1,none⟩ (.int .u32 n)) (n4+1) 86 #[.int .i64 2,.int .u32 n,.slice none 0 0,.slice none 0 0] by simpa using B8.out.set_ 1 (.int .u32 n))
 have B4:=zh (B4.out.far (p:=⟨n4+1,1,none⟩) (by simp) (.int .u32 n))
 go_wp2_with(first
  |(refine wpList_load_row rfl 86 _ rfl _ rfl 86 _ _ _ B7.out Tryz.underlying86 rfl hiF ?_)
  |(refine wpList_store_M rfl 86 _ _ rfl n4 _ rfl rfl 86 _ B4.out hiF rfl (by simp[Value.oneCell']) ?_;intro w9 P9 M9))
 refine bodyPost_ret_by (Zas Tryz.results133 _ _ n4 86 _ _ _ rfl _ _ rfl rfl P9 Tryz.underlying86 rfl hiF) rfl ?_
 refine⟨.slice none 0 0,by simp[encF],RdS.nil _ _ _,?_⟩
 exact Mod.toExt (Mod.toExt E1 (M2.set1 _) (fun k hk he=>by have:=HN4.out;omega)) M9 (fun k hk he=>by have:=HN4.out;omega)
theorem ZlM (f:Fd)(r:List Int)(v:Value)(w:World)(hc:Zeb f)(hr:f.k=6→r=[])(h:RI .u8 w v (encF f.k f.n f.t++r))(hb:Bs (encF f.k f.n f.t++r)):
 Calls Tryz.prog 133 #[.int .i64 f.k,v] w (Zcz f.k f.n f.t w):=by
 by_cases h2:f.k=2
 ·obtain⟨k,n,t⟩:=f
  dsimp only at*
  subst h2
  rcases hc with⟨h9,-⟩|⟨-,hn,ht⟩|⟨h9,-⟩|⟨h9,-⟩|⟨h9,-⟩
  ·cases h9
  ·dsimp only at hn ht
   subst ht
   exact Zr5 v n r w (by simpa [encF] using h) hn
  all_goals cases h9
 ·exact ZgP f r v w hc h2 hr h hb
theorem ZlN (vk v:Value)(fs:List Fd)(w:World)(hk:RI .i64 w vk (fs.map (·.k)))(hv:RI .u8 w v (encL fs))(hN:fs.length≤8)(hr:Zdw (fs.map (·.k)))(hf:∀f∈fs,Zeb f)(hb:Bs (encL fs)):
 Calls Tryz.prog 63 #[vk,v] w (ReP fs w):=by
 have hi:=zi Tryz.prog 86 4
 obtain⟨Ak,ck,rfl,hk1,hk2⟩:=hk.shape
 have HV:=zh hv
 have HR:=zh hr
 have HF:=zh hf
 have HBS:=zh hb
 have HKI:=zh (Ze7 _ _ w hk hr)
 obtain⟨N,hNN⟩:=zm (fs.length)
 have HN:=zh hNN
 have hNk:(fs.map (·.k)).length=N:=by simpa using hNN
 have HK:=zh (show RdN w 1 (.slice Ak N ck) (fs.map (·.k)).length ((fs.map (·.k)).map (Value.int .i64)) by rw[←hNk];exact hk)
 rw[hNk] at hk1 HKI⊢
 rw[hNN] at hN
 clear hk hv hr hf hb hNN hNk
 go_enter Tryz.func63,Tryz.ntmps63
 go_wp2_with fail
 refine(HKI.out).mono ?_
 rintro e w2 ⟨rfl,E2⟩
 have E02:=zh E2
 go_wp2
 go_loopw [1,6,17] (fun s u i wr=>∃ (m:Nat),m≤N∧i= .int .i64 m∧Hid (RdS Ub8 (fun k=>k<w.heap.size) wr s (encL (fs.drop m)))∧Hid (OwnS FdR 86 w.heap.size (fun k=>w.heap.size≤k) wr u (fs.take m))∧Hid (Ext w wr)) (fun _ _ i _=>N - (intOf i).toNat)
 case atStart=>exact⟨0,Nat.zero_le _,rfl,zh (by rw[List.drop_zero];exact((show RdS Ub8 (fun _=>True) w v (encL fs) from RI.s HV.out).lt.mono (fun k _ hk=>hk.2)).ext E2),zh (by rw[List.take_zero];exact OwnS.nil _ _ _ _ _),E02⟩
 case round=>
  clear E02
  obtain⟨m,hm,rfl,HB,HO,hE⟩:=hrel
  by_cases hmn:m<N
  ·obtain⟨b,off,x,rfl,hx,hd⟩:=RdN.icell (l:=fs.map (·.k)) (RdN.ext HK.out hE.out) hmn
   obtain⟨f,hfm,hfk⟩:∃f,fs[m]?=some f∧x=f.k:=by
    have h9:=hd.out
    rw[List.getElem?_map] at h9
    cases h8:fs[m]? with
    |none=>rw[h8] at h9;cases h9
    |some f=>rw[h8] at h9;exact⟨f,rfl,by simpa using h9.symm⟩
   subst hfk
   have hcan:=HF.out f (List.mem_of_getElem? hfm)
   have hdr:encL (fs.drop m)=encF f.k f.n f.t++encL (fs.drop (m+1)):=Zec hfm
   have hbs:Bs (encF f.k f.n f.t++encL (fs.drop (m+1))):=by
    rw[←hdr]
    intro y hy
    refine HBS.out y ?_
    unfold encL at hy⊢
    obtain⟨l,hl,hyl⟩:=List.mem_flatten.1 hy
    obtain⟨f2,hf2,rfl⟩:=List.mem_map.1 hl
    exact List.mem_flatten.2 ⟨_,List.mem_map.2 ⟨f2,List.mem_of_mem_drop hf2,rfl⟩,hyl⟩
   rw[hdr] at HB
   have HTK:=zh (ZlM f (encL (fs.drop (m+1))) _ wr hcan (fun h6=>by
    have h9:=(HR.out m f.k hd.out).2 h6
    rw[List.length_map] at h9
    rw[List.drop_of_length_le (by omega)]
    rfl) (RdS.ri HB.out) hbs)
   unfold Zcz at HTK
   obtain⟨Ab,cb,rfl,hb1,hb2⟩:=HB.out.shape
   obtain⟨Au,cu,rfl,-,-⟩:=HO.out.shape
   have htk:(fs.take m).length=m:=by rw[List.length_take,HN.out];omega
   rw[htk] at HO⊢
   obtain⟨E,hEl⟩:=zm ((encF f.k f.n f.t).length)
   have HRF:=zh (show RdS Ub8 (fun k=>k<w.heap.size) wr (.slice (if cb=E then Ab else Option.map (fun x=>x.add E) Ab) ((encF f.k f.n f.t++encL (fs.drop (m+1))).length - E) (cb - E)) (encL (fs.drop (m+1))) from by
    have h9:=RdS.from_ HB.out (k:=E) (by rw[List.length_append];omega)
    rw[show(encF f.k f.n f.t++encL (fs.drop (m+1))).drop E=encL (fs.drop (m+1)) by rw[←hEl,List.drop_left]] at h9
    rw[show Ub8.size=1 from rfl,Nat.mul_one] at h9
    exact h9)
   obtain⟨L,hL⟩:=zm ((encF f.k f.n f.t++encL (fs.drop (m+1))).length)
   have hEL:E≤L:=by rw[←hL,List.length_append];omega
   rw[hL] at hb1 HTK HRF⊢
   rw[hEl] at HTK
   have HFM:=zh hfm
   clear HB hfm hd hcan hdr hbs hL hEl
   go_wp2_with fail
   refine(HTK.out).mono ?_
   rintro e w3 ⟨vt,rfl,hvt,E3⟩
   obtain⟨At,ct,rfl,-,-⟩:=hvt.shape
   obtain⟨vt,hvv⟩:=zn (Value.slice At f.t.length ct)
   go_upto_region 10 with fail
   obtain⟨W9,hW9⟩:=zn (w3.alloc (.cells #[.int .i64 f.k,.int .u32 f.n,.slice At f.t.length ct,.slice none 0 0] 86))
   have E9:Ext w3 W9:=by rw[hW9];exact(Ext.refl _).alloc _
   have P9:=zh (show Blk W9 w3.heap.size 86 #[.int .i64 f.k,.int .u32 f.n,.slice At f.t.length ct,.slice none 0 0] by rw[hW9];exact Blk.new w3 _ _)
   rw[←hW9]
   have HO9:=zh (HO.out.ext (E3.trans E9))
   have hoR:=zh HO.out.row
   have hE9:=zh ((hE.out.trans E3).trans E9)
   have HT9:=zh (hvt.ext E9)
   have HR9:=zh (HRF.out.ext (E3.trans E9))
   have hz:=hE.out.size
   have hz9:=hE9.out.size
   rw[←hvv] at P9 HT9
   clear hW9 HO hE hvt HRF E3 E9 HTK
   rw[←hvv]
   clear hvv
   have hEi:(E:Int)≤(L:Int):=by omega
   go_wp2_with(first
    |(refine wpList_load_row rfl 86 _ rfl _ rfl 86 _ _ _ P9.out Tryz.underlying86 rfl hi ?_)
    |(at_builtin;refine wpList_app (e:=FdR) (base:=w.heap.size) (B:=fun k=>w.heap.size≤k) (A:=fun k=>wr.heap.size≤k) rfl (.tmp 31) (.tmp 33) rfl Tryz.underlying87 ZcN rfl (HO9.out.alloc _) rfl (RdY.singleB (e:=FdR) (cs:=[.int .i64 f.k,.int .u32 f.n,vt,.slice none 0 0]) (d:=f) ⟨vt,rfl,HT9.out.alloc _⟩ (Blk.new _ _ _)) rfl (fun k _ hk=>⟨by omega,fun he=>by have:=(hoR.out k he).2;omega⟩) (N:=m+1) (by rw[htk];rfl) (by unfold maxLen;omega) (by omega) (by simp;omega) ?_;intro A9 c9 w9 o9 M9 _))
   have M99:=(Mod.of_ext (S:=fun k=>(Value.slice Au m cu).ownBlock=some k) ((Ext.refl W9).alloc (.cells #[.int .i64 f.k,.int .u32 f.n,vt,.slice none 0 0] 86))).trans M9
   refine⟨⟨m+1,by omega,by go_num,zh (HR9.out.mod M99 (fun k _ hk he=>by have:=(hoR.out k he).1;omega)),zh ?_,zh (Mod.toExt hE9.out M99 (fun k hk he=>by have:=(hoR.out k he).1;omega))⟩,by simp[intOf];omega⟩
   rw[List.take_add_one,HFM.out]
   exact o9
  ·obtain rfl:m=N:=by omega
   rw[List.drop_of_length_le (by rw[HN.out];exact Nat.le_refl _)] at HB
   rw[List.take_of_length_le (by rw[HN.out];exact Nat.le_refl _)] at HO
   obtain⟨Ab,cb,rfl,-,-⟩:=HB.out.shape
   have hen:encL ([]:List Fd)=[]:=rfl
   rw[hen]
   clear HB
   go_wp2
   go_ret2
   exact⟨_,rfl,HO.out,hE.out⟩
theorem ZlO (k:Nat)(h1:1≤k)(h10:k≤10):∀w,(Instr.index 251 (.agg #[.string ⟨#[]⟩,.string ⟨#[112,116,121,45,114,101,113]⟩,.string ⟨#[101,110,118]⟩,.string ⟨#[115,104,101,108,108]⟩,.string ⟨#[101,120,101,99]⟩,.string ⟨#[115,117,98,115,121,115,116,101,109]⟩,.string ⟨#[119,105,110,100,111,119,45,99,104,97,110,103,101]⟩,.string ⟨#[120,111,110,45,120,111,102,102]⟩,.string ⟨#[115,105,103,110,97,108]⟩,.string ⟨#[101,120,105,116,45,115,116,97,116,117,115]⟩,.string ⟨#[101,120,105,116,45,115,105,103,110,97,108]⟩]) (.int .i64 (k:Int))).run Tryz.prog w= .ok (.string (nmQ k)) w:=by
 rcases k with _|_|_|_|_|_|_|_|_|_|_|k
 ·omega
 all_goals first|omega|(intro w;kernel_rfl)
theorem ZjN (k:Nat)(h1:1≤k)(h10:k≤10)(w:World):Calls Tryz.prog 61 #[.int .i64 (k:Int)] w fun e w'=>e= .returned (.tuple #[.string (nmQ k),.bool true])∧Ext w w':=by
 have hix:=ZlO k h1 h10
 have h2:¬(k:Int)<1:=by omega
 have h3:¬(10:Int)<(k:Int):=by omega
 obtain⟨nm,hnm⟩:=zm (nmQ k)
 rw[hnm] at hix⊢
 clear hnm
 go_enter Tryz.func61,Tryz.ntmps61
 go_wp2_with(refine wpList_openG rfl rfl ?_)
 go_ret2
 exact⟨rfl,zX⟩
theorem Zr6 {k m:Nat}(h:k≠m):(if k<m+1 then k else 0)=(if k<m then k else 0):=by
 by_cases h1:k<m
 ·rw[if_pos h1,if_pos (by omega)]
 ·rw[if_neg h1,if_neg (by omega)]
theorem ZcB {g:Nat}{A:Nat→Prop}{w w':World}{a:Option Addr}{T c:Nat}{s:ByteArray}(h:Hid (RdS Ub8 A w (.slice a T c) (bsL s)))(hg:∀j,A j→j≠g)(M:Mod (fun j=>j=g) w w'):(convert 43 9 (.slice a T c)).run Tryz.prog w'= .ok (.string s) w':=by
 have h9:=RI.str (P:=Tryz.prog) Tryz.underlying43 Tryz.underlying5 Tryz.underlying9 (RdS.ri (h.out.mod M (fun j _ hj he=>hg j hj he)))
 rw[str_back] at h9
 exact h9
theorem ZlP (r:Rq)(k:Nat)(vb:Value)(w:World)(h:RI .u8 w vb (encL (fldsQ r k)))(hk:r.k=(k:Int))(h1:1≤k)(h10:k≤10)(ha:Zbe r=0)(hr:r.Ok):
 Calls Tryz.prog 30 #[.string (nmQ k),vb] w (ZkH r k w):=by
 have hiQ:=zi Tryz.prog 46 11
 have hiF:=zi Tryz.prog 86 4
 have hiZ:=zi Tryz.prog 35 4
 have hiFL:∀a b c d:Value,(Tryz.prog.info? 86).map (·.size)=some [a,b,c,d].length:=fun _ _ _ _=>hiF
 have HRD:=zh (fun vk w' (E:Ext w w') (hvk:RI .i64 w' vk (kindsQ k))=>ZlN vk vb (fldsQ r k) w' (by rw[Zci];exact hvk) (RdN.ext h E) (by rw[Zcw];have:=ZbL k;omega) (by rw[Zci];exact Zei k) (fun f hf=>(ZbZ hr k hk ha f hf).can) (Zij hr k hk ha))
 unfold ReP at HRD
 have HFT:=zh (fun(A:Option Addr) (c:Nat) w'=>ZjM (ownQ r k) A c k w' (ZpD r k) h1 h10 (by rw[ZkE k hk h1 h10];exact ha))
 have HRF:=zh (fun w'=>Zoa k h1 h10 w')
 unfold Zn9 at HRF
 obtain⟨A,c,rfl,-,-⟩:=h.shape
 obtain⟨L,hL⟩:=zm ((encL (fldsQ r k)).length)
 rw[hL] at HRD⊢
 obtain⟨K,hK⟩:=zm ((kindsQ k).length)
 have HKL:=zh hK
 have hK6:K≤6:=by rw[←hK];exact ZbL k
 have HNE:=zh (fun m (hm:m<k)=>ZpJ m k hm h10)
 have HNF:=zh (fun m (hm:k<m) (h9:m≤10)=>ZpJ k m hm h9)
 rw[hK] at HRF
 have hk0:¬(k:Int)=0:=by omega
 obtain⟨W1,hW1⟩:=zn ((w.alloc (.cells rqZ 46)).alloc (.cells rqZ 46))
 have E1:Ext w W1:=by rw[hW1];exact((Ext.refl _).alloc _).alloc _
 have b6:((w.alloc (.cells rqZ 46)).alloc (.cells rqZ 46)).heap[w.heap.size+1]?=some (.cells rqZ 46 (0,0)):=Blk.at_ _ _ (by simp)
 have B4:=zh (show Blk W1 w.heap.size 46 rqZ by rw[hW1];exact(Blk.new w _ _).alloc _)
 have B6:=zh (show Blk W1 (w.heap.size+1) 46 (rqA (rq0 0) (.slice none 0 0)) by rw[hW1];exact b6)
 have HW1:=zh hW1
 have HK:=zh hk
 clear h hk ha hr hW1 hL hK b6
 go_enter Tryz.func30,Tryz.ntmps30
 go_upto_region 2 with fail
 rw[←HW1.out]
 clear HW1
 obtain⟨n4,hn4⟩:=zm (w.heap.size)
 have HN4:=zh hn4
 rw[hn4] at B4 B6⊢
 clear hn4
 have E1:=zh E1
 go_wp2
 go_loopw [7] (fun i wr=>∃m:Nat,1≤m∧m≤11∧i= .int .i64 m∧Hid (Blk wr n4 46 rqZ)∧Hid (Blk wr (n4+1) 46 (rqA (rq0 (if k<m then k else 0)) (.slice none 0 0)))∧Hid (Ext w wr)) (fun i _=>11 - (intOf i).toNat)
 case atStart=>exact⟨1,by omega,by omega,rfl,B4,by rw[if_neg (by omega)];exact B6,E1⟩
 case round=>
  clear B4 B6 E1
  obtain⟨m,hm1,hm11,rfl,B4,B6,hE⟩:=hrel
  by_cases hm:m≤10
  ·have hmi:(m:Int)≤10:=by omega
   go_wp2_with fail
   refine(ZjN m hm1 hm _).mono ?_
   rintro e w2 ⟨rfl,E2⟩
   have B4:=zh (B4.out.ext E2)
   have B6:=zh (B6.out.ext E2)
   have hE:=zh (hE.out.trans E2)
   clear E2
   by_cases hmk:m=k
   ·subst hmk
    have hb:((nmQ m).toList== (nmQ m).toList)=true:=by simp
    rw[if_neg (Nat.lt_irrefl m)] at B6
    have q0:=B6.out.cell 0
    have f0:=B6.out.frozen 0
    simp only[rq0,List.getElem?_toArray,List.getElem?_cons_zero] at q0
    go_wp2
    go_roundw
    case rel=>exact⟨m+1,by omega,by omega,by go_num,zh (B4.out.far (p:=⟨n4+1,0,none⟩) (by simp) _),zh (by rw[if_pos (by omega)];simpa [rq0] using B6.out.set_ 0 (.int .i64 (m:Int))),zh (Mod.toExt hE.out ((Mod.refl (fun j=>j=n4+1) _).set1 _) (fun j hj he=>by have:=HN4.out;omega))⟩
    case measure=>simp[intOf];omega
   ·have hb:((nmQ m).toList== (nmQ k).toList)=false:=by
     rcases Nat.lt_or_ge m k with h9|h9
     ·exact HNE.out m h9
     ·have h8:=HNF.out m (by omega) hm
      rw[beq_eq_false_iff_ne] at h8⊢
      exact fun h7=>h8 h7.symm
    go_wp2
    go_roundw
    case rel=>exact⟨m+1,by omega,by omega,by go_num,B4,by rw[Zr6 (fun h9=>hmk h9.symm)];exact B6,hE⟩
    case measure=>simp[intOf];omega
  ·obtain rfl:m=11:=by omega
   rw[if_pos (by omega)] at B6
   obtain⟨wq,rfl⟩:=zn (wr)
   have q0:=B6.out.cell 0
   simp only[rq0,List.getElem?_toArray,List.getElem?_cons_zero] at q0
   clear HNE HNF hm1 hm11 hm
   go_upto_region 10 with fail
   go_wp2_with(first|(refine wpList_load_row rfl 46 _ rfl _ rfl 46 _ _ _ B6.out Tryz.underlying46 rfl hiQ ?_)|fail)
   refine(HRF.out _).mono ?_
   rintro e w2 ⟨Af,cf,rfl,hF,E2⟩
   have HF:=zh hF
   have B4:=zh (B4.out.ext E2)
   have B6:=zh (B6.out.ext E2)
   have hE:=zh (hE.out.trans E2)
   clear hF E2 HRF q0
   go_wp2
   go_loopw [10,38] (fun u i wr=>∃j:Nat,j≤K∧i= .int .i64 j∧Hid (OwnS Ib 3 w2.heap.size (fun _=>False) wr u ((kindsQ k).take j))∧Hid (Ext w2 wr)) (fun _ i _=>K - (intOf i).toNat)
   case atStart=>exact⟨0,Nat.zero_le _,rfl,zh (OwnS.nil _ _ _ _ _),zh (Ext.refl _)⟩
   case round=>
    obtain⟨j,hj,rfl,HO,hE2⟩:=hrel
    by_cases hjk:j<K
    ·obtain⟨b2,off2,c9,d,cs,hv9,hd9,hrel9,hl9,hcell⟩:=(HF.out.ext hE2.out).cells (j:=j) (by rw[HKL.out];exact hjk)
     simp only[Value.slice.injEq] at hv9
     obtain⟨rfl,-,-⟩:=hv9
     obtain⟨a1,a2,a3,rfl,o1,o2,o3⟩:=hrel9.out
     have HC9:=zh (show wr.rangeAt b2 (off2+j*4) [.int .i64 d,a1,a2,a3] from hcell)
     clear hcell hl9 hrel9
     go_upto_region 14 with(first|(refine wpList_load_mid rfl 86 _ rfl b2 (off2+j*4) rfl [.int .i64 d,a1,a2,a3] _ HC9.out Tryz.underlying86 rfl (hiFL _ _ _ _) ?_)|(refine wpList_store_M rfl 86 _ _ rfl wr.heap.size _ rfl rfl 86 _ (Blk.new _ _ _) hiF rfl (by simp[Value.oneCell'];exact⟨o1,o2,o3⟩) ?_;intro w10 P10 M10))
     have E10:Ext wr w10:=Mod.toExt ((Ext.refl wr).alloc _) M10 (fun k hk he=>by omega)
     have kp0:=P10.cell 0
     simp only[List.getElem?_toArray,List.getElem?_cons_zero] at kp0
     have hE10:=zh (hE2.out.trans E10)
     have HO10:=zh (HO.out.ext E10)
     have hlm:((kindsQ k).take j).length=j:=by rw[List.length_take,HKL.out];omega
     obtain⟨Ao,co,rfl,-,-⟩:=HO.out.shape
     rw[hlm] at HO10⊢
     have HVF:=zh (show(kindsQ k)[j]?=some d from hd9.out)
     have HRow:=zh HO10.out.row
     have hb10:=hE10.out.size
     clear HO hE2 E10 M10 P10 HC9 o1 o2 o3 hd9
     go_wp2_with(at_builtin;refine wpList_app (e:=Ib) (base:=w2.heap.size) (B:=fun _=>False) (A:=fun _=>False) rfl (.tmp 42) (.tmp 45) rfl Tryz.underlying109 ZdM rfl (HO10.out.alloc _) rfl (RdY.singleB (e:=Ib) (cs:=[.int .i64 d]) (d:=d) rfl (Blk.new _ _ _)) rfl (fun _ _ h=>h.elim) (N:=j+1) (by rw[hlm];rfl) (by unfold maxLen;omega) (by omega) (by simp;omega) ?_;intro A14 c14 w14 o14 M14 _)
     have M15:Mod (fun k=>(Value.slice Ao j co).ownBlock=some k) w10 w14:=(Mod.of_ext ((Ext.refl w10).alloc _)).trans M14
     refine⟨⟨j+1,by omega,by go_num,zh ?_,zh ?_⟩,by simp[intOf];omega⟩
     ·rw[List.take_add_one,HVF.out]
      exact o14
     ·exact Mod.toExt hE10.out M15 (fun k hk he=>by have:=(HRow.out _ he).1;omega)
    ·obtain rfl:j=K:=by omega
     obtain⟨wz,rfl⟩:=zn (wr)
     have hO9:=HO.out
     rw[List.take_of_length_le (by rw[HKL.out];exact Nat.le_refl _)] at hO9
     obtain⟨Ao,co,rfl,-,-⟩:=hO9.shape
     have E0r:=zh (hE.out.trans hE2.out)
     have HRD:=zh (HRD.out _ wz E0r.out (RdS.ri hO9.rdT))
     rw[HKL.out] at HRD⊢
     have B4:=zh (B4.out.ext hE2.out)
     have B6:=zh (B6.out.ext hE2.out)
     clear HO hO9 hE hE2 HF
     go_wp2_with fail
     with_reducible refine(HRD.out).mono ?_
     rintro e w3 ⟨vl,rfl,o3,E3⟩
     obtain⟨Av,cv,rfl,-,-⟩:=o3.shape
     obtain⟨N,hN⟩:=zm ((fldsQ r k).length)
     have HL3:=zh ((o3.rd (A:=fun k=>wz.heap.size≤k) (fun k hk=>hk) (fun k hk=>hk)).lt)
     have E03:=zh (E0r.out.trans E3)
     have hb4q:=B4.out.lt
     have hb6q:=B6.out.lt
     have B4:=zh (B4.out.ext E3)
     have B6:=zh (B6.out.ext E3)
     rw[hN] at HL3⊢
     have HNN:=zh hN
     clear o3 HRD E3 E0r hN
     have q0:=B6.out.cell 0
     simp only[rq0,List.getElem?_toArray,List.getElem?_cons_zero] at q0
     go_upto_block 4 with fail
     go_cut [60] (fun _ wx=>∃ (Am:Option Addr) (cm:Nat),Hid (Blk wx (n4+1) 46 (rqA (ownQ r k) (.slice Am (ownQ r k).mo.length cm)))∧Hid (RdS Ub8 (fun j=>n4+1<j) wx (.slice Am (ownQ r k).mo.length cm) (ownQ r k).mo)∧Hid (Mod (fun j=>j=n4+1) w3 wx))
     case first=>
      have hn4:=HN4.out
      clear HFT HKL HK hK6
      rcases k with _|_|_|_|_|_|_|_|_|_|_|k
      ·omega
      ·clear hk0
       have hN9:N=6:=by
        have h9:=HNN.out
        simp only[fldsQ,List.length_cons,List.length_nil] at h9
        omega
       subst hN9
       obtain⟨b0,of0,rfl,hb0l,HF0⟩:=Zb7 HL3.out.y (by decide)
       obtain⟨At0,T0,ct0,-,d20,ht0⟩:=(HF0 0 _ _ _ (by decide) (by rfl)).2
       have d11:=(HF0 1 _ _ _ (by decide) (by rfl)).1
       have d12:=(HF0 2 _ _ _ (by decide) (by rfl)).1
       have d13:=(HF0 3 _ _ _ (by decide) (by rfl)).1
       have d14:=(HF0 4 _ _ _ (by decide) (by rfl)).1
       obtain⟨At5,_,ct5,rfl,d25,ht5⟩:=(HF0 5 _ _ _ (by decide) (by rfl)).2
       clear HF0
       have hb0n:¬b0=n4+1:=fun h9=>by
        have h8:=HL3.out.2 (by simp[fldsQ]) b0 rfl
        omega
       have M3:=zh (Mod.refl (fun j=>j=n4+1) w3)
       go_upto_region 21 with fail
       refine zg (fun w'=>Mod (fun j=>j=n4+1) w3 w') (M3.out.ext (Ext.drew (Ext.refl _))) fun hHeld=>?_
       obtain⟨D,hD⟩:=zn (World.drew w3)
       have ED:Ext w3 D:=by rw[hD];exact(Ext.refl _).drew
       rw[←hD] at hHeld⊢
       clear hD
       refine zr 0 ?_
       refine zr 1 ?_
       refine zr 2 ?_
       (refine zu 3 (fun _ h=>(h.cell b0 (of0+2) hb0l hb0n).trans d20) ?_)
       (refine zu 4 (fun _ h=>ZcB ht0 (fun j hj he=>by omega) h) ?_)
       refine zr 5 ?_
       refine zr 6 ?_
       refine zr 7 ?_
       (refine zu 8 (fun _ h=>(h.cell b0 (of0+22) hb0l hb0n).trans d25) ?_)
       have B6:=zh (show Blk D (n4+1) 46 #[.int .i64 1,.string ⟨#[]⟩,.string ⟨#[]⟩,.string ⟨#[]⟩,.int .u32 0,.int .u32 0,.int .u32 0,.int .u32 0,.slice none 0 0,.bool false,.int .u32 0] from B6.out.ext ED)
       have MM:=zh (M3.out.ext ED)
       clear ED
       refine zr 9 ?_
       refine zs 10 1 B6 MM fun D B6 MM hHeld=>?_
       refine zr 11 ?_
       refine zs 12 8 B6 MM fun D B6 MM hHeld=>?_
       refine zd ?_
       clear hHeld M3
       have M3:=MM
       clear MM
       obtain⟨w4,rfl⟩:=zn (D)
       go_upto_region 22 with fail
       refine zg (fun w'=>Mod (fun j=>j=n4+1) w3 w') (M3.out.ext (Ext.drew (Ext.refl _))) fun hHeld=>?_
       obtain⟨D,hD⟩:=zn (World.drew w4)
       have ED:Ext w4 D:=by rw[hD];exact(Ext.refl _).drew
       rw[←hD] at hHeld⊢
       clear hD
       refine zr 0 ?_
       refine zr 1 ?_
       refine zr 2 ?_
       (refine zu 3 (fun _ h=>(h.cell b0 (of0+5) hb0l hb0n).trans d11) ?_)
       refine zr 4 ?_
       refine zr 5 ?_
       refine zr 6 ?_
       (refine zu 7 (fun _ h=>(h.cell b0 (of0+9) hb0l hb0n).trans d12) ?_)
       refine zr 8 ?_
       refine zr 9 ?_
       refine zr 10 ?_
       (refine zu 11 (fun _ h=>(h.cell b0 (of0+13) hb0l hb0n).trans d13) ?_)
       refine zr 12 ?_
       refine zr 13 ?_
       refine zr 14 ?_
       (refine zu 15 (fun _ h=>(h.cell b0 (of0+17) hb0l hb0n).trans d14) ?_)
       have B6:=zh (show Blk D (n4+1) 46 #[.int .i64 1,.string r.tx,.string ⟨#[]⟩,.string ⟨#[]⟩,.int .u32 0,.int .u32 0,.int .u32 0,.int .u32 0,.slice At5 r.mo.length ct5,.bool false,.int .u32 0] from B6.out.ext ED)
       have MM:=zh (M3.out.ext ED)
       clear ED
       (refine zU 16 (v:=.agg #[.int .u32 r.c1,.int .u32 r.c2,.int .u32 r.c3,.int .u32 r.c4]) rfl (Zae (by rfl) 35 _ rfl (by simp[go_sem];exact(by kernel_rfl))) ?_)
       refine zr 17 ?_
       have hth:D.there (n4+1) 4 4:=fun t ht=>⟨by
        rw[B6.out.cell]
        rcases t with _|_|_|_|t
        ·rfl
        ·rfl
        ·rfl
        ·rfl
        ·omega,B6.out.frozen _⟩
       (refine zw 18 fun K hK=>?_;rw[if_pos (by rfl)];refine wp_store_mid 35 _ _ rfl (n4+1) (4) (#[.int .u32 r.c1,.int .u32 r.c2,.int .u32 r.c3,.int .u32 r.c4]) rfl rfl hth hiZ (by simp[Value.oneCell']) ?_;refine zo hK (Mod.setCells [.int .u32 r.c1,.int .u32 r.c2,.int .u32 r.c3,.int .u32 r.c4] 4 w3 D MM.out) fun hHeld=>?_;clear hK K)
       have B6:=zh (show Blk (D.setCells (n4+1) 4 [.int .u32 r.c1,.int .u32 r.c2,.int .u32 r.c3,.int .u32 r.c4]) (n4+1) 46 #[.int .i64 1,.string r.tx,.string ⟨#[]⟩,.string ⟨#[]⟩,.int .u32 r.c1,.int .u32 r.c2,.int .u32 r.c3,.int .u32 r.c4,.slice At5 r.mo.length ct5,.bool false,.int .u32 0] from Blk.setCells [.int .u32 r.c1,.int .u32 r.c2,.int .u32 r.c3,.int .u32 r.c4] 4 D _ B6.out (by simp))
       have MM:=zh (Mod.setCells [.int .u32 r.c1,.int .u32 r.c2,.int .u32 r.c3,.int .u32 r.c4] 4 w3 D MM.out)
       clear hth
       generalize World.setCells D (n4+1) 4 [.int .u32 r.c1,.int .u32 r.c2,.int .u32 r.c3,.int .u32 r.c4]=Dz22 at*
       refine zd ?_
       clear hHeld M3
       have M3:=MM
       clear MM
       go_wp2_with fail
       go_meet
       exact⟨At5,ct5,zh B6.out,zh ((ht5.out.mod M3.out (fun j _ hj he=>by omega)).mono (fun j _ hj=>by omega)),M3⟩
      ·clear hk0
       have hN9:N=2:=by
        have h9:=HNN.out
        simp only[fldsQ,List.length_cons,List.length_nil] at h9
        omega
       subst hN9
       obtain⟨b0,of0,rfl,hb0l,HF0⟩:=Zb7 HL3.out.y (by decide)
       obtain⟨At0,T0,ct0,-,d20,ht0⟩:=(HF0 0 _ _ _ (by decide) (by rfl)).2
       obtain⟨At1,T1,ct1,-,d21,ht1⟩:=(HF0 1 _ _ _ (by decide) (by rfl)).2
       clear HF0
       have hb0n:¬b0=n4+1:=fun h9=>by
        have h8:=HL3.out.2 (by simp[fldsQ]) b0 rfl
        omega
       have M3:=zh (Mod.refl (fun j=>j=n4+1) w3)
       go_upto_region 24 with fail
       refine zg (fun w'=>Mod (fun j=>j=n4+1) w3 w') (M3.out.ext (Ext.drew (Ext.refl _))) fun hHeld=>?_
       obtain⟨D,hD⟩:=zn (World.drew w3)
       have ED:Ext w3 D:=by rw[hD];exact(Ext.refl _).drew
       rw[←hD] at hHeld⊢
       clear hD
       refine zr 0 ?_
       refine zr 1 ?_
       refine zr 2 ?_
       (refine zu 3 (fun _ h=>(h.cell b0 (of0+2) hb0l hb0n).trans d20) ?_)
       (refine zu 4 (fun _ h=>ZcB ht0 (fun j hj he=>by omega) h) ?_)
       refine zr 5 ?_
       refine zr 6 ?_
       refine zr 7 ?_
       (refine zu 8 (fun _ h=>(h.cell b0 (of0+6) hb0l hb0n).trans d21) ?_)
       (refine zu 9 (fun _ h=>ZcB ht1 (fun j hj he=>by omega) h) ?_)
       have B6:=zh (show Blk D (n4+1) 46 #[.int .i64 2,.string ⟨#[]⟩,.string ⟨#[]⟩,.string ⟨#[]⟩,.int .u32 0,.int .u32 0,.int .u32 0,.int .u32 0,.slice none 0 0,.bool false,.int .u32 0] from B6.out.ext ED)
       have MM:=zh (M3.out.ext ED)
       clear ED
       refine zr 10 ?_
       refine zs 11 1 B6 MM fun D B6 MM hHeld=>?_
       refine zr 12 ?_
       refine zs 13 2 B6 MM fun D B6 MM hHeld=>?_
       refine zd ?_
       clear hHeld M3
       have M3:=MM
       clear MM
       obtain⟨w4,rfl⟩:=zn (D)
       go_wp2_with fail
       go_meet
       exact⟨none,0,zh B6.out,zh (RdS.nil _ _ _),M3⟩
      ·clear hk0
       go_wp2
       go_meet
       exact⟨none,0,zh (by simpa [ownQ,rq0] using B6.out),zh (RdS.nil _ _ _),zh (Mod.refl _ _)⟩
      ·clear hk0
       have hN9:N=1:=by
        have h9:=HNN.out
        simp only[fldsQ,List.length_cons,List.length_nil] at h9
        omega
       subst hN9
       obtain⟨b0,of0,rfl,hb0l,HF0⟩:=Zb7 HL3.out.y (by decide)
       obtain⟨At0,T0,ct0,-,d20,ht0⟩:=(HF0 0 _ _ _ (by decide) (by rfl)).2
       clear HF0
       have hb0n:¬b0=n4+1:=fun h9=>by
        have h8:=HL3.out.2 (by simp[fldsQ]) b0 rfl
        omega
       have M3:=zh (Mod.refl (fun j=>j=n4+1) w3)
       have q9:=B6.out.cell 1
       have f9:=B6.out.frozen 1
       simp only[rq0,List.getElem?_toArray,List.getElem?_cons_zero,List.getElem?_cons_succ] at q9
       have hcv:=ZcB ht0 (fun j hj he=>by omega) (Mod.refl (fun j=>j=n4+1) w3)
       go_wp2
       have B6:=zh (show Blk (w3.setCell ⟨n4+1,1,none⟩ (.string r.tx)) (n4+1) 46 #[.int .i64 4,.string r.tx,.string ⟨#[]⟩,.string ⟨#[]⟩,.int .u32 0,.int .u32 0,.int .u32 0,.int .u32 0,.slice none 0 0,.bool false,.int .u32 0] by simpa [rq0] using B6.out.set_ 1 (.string r.tx))
       have M3:=zh (M3.out.set1 (o:=1) (.string r.tx))
       skip
       go_meet
       exact⟨none,0,zh B6.out,zh (RdS.nil _ _ _),M3⟩
      ·clear hk0
       have hN9:N=1:=by
        have h9:=HNN.out
        simp only[fldsQ,List.length_cons,List.length_nil] at h9
        omega
       subst hN9
       obtain⟨b0,of0,rfl,hb0l,HF0⟩:=Zb7 HL3.out.y (by decide)
       obtain⟨At0,T0,ct0,-,d20,ht0⟩:=(HF0 0 _ _ _ (by decide) (by rfl)).2
       clear HF0
       have hb0n:¬b0=n4+1:=fun h9=>by
        have h8:=HL3.out.2 (by simp[fldsQ]) b0 rfl
        omega
       have M3:=zh (Mod.refl (fun j=>j=n4+1) w3)
       have q9:=B6.out.cell 1
       have f9:=B6.out.frozen 1
       simp only[rq0,List.getElem?_toArray,List.getElem?_cons_zero,List.getElem?_cons_succ] at q9
       have hcv:=ZcB ht0 (fun j hj he=>by omega) (Mod.refl (fun j=>j=n4+1) w3)
       go_wp2
       have B6:=zh (show Blk (w3.setCell ⟨n4+1,1,none⟩ (.string r.tx)) (n4+1) 46 #[.int .i64 5,.string r.tx,.string ⟨#[]⟩,.string ⟨#[]⟩,.int .u32 0,.int .u32 0,.int .u32 0,.int .u32 0,.slice none 0 0,.bool false,.int .u32 0] by simpa [rq0] using B6.out.set_ 1 (.string r.tx))
       have M3:=zh (M3.out.set1 (o:=1) (.string r.tx))
       skip
       go_meet
       exact⟨none,0,zh B6.out,zh (RdS.nil _ _ _),M3⟩
      ·clear hk0
       have hN9:N=4:=by
        have h9:=HNN.out
        simp only[fldsQ,List.length_cons,List.length_nil] at h9
        omega
       subst hN9
       obtain⟨b0,of0,rfl,hb0l,HF0⟩:=Zb7 HL3.out.y (by decide)
       have d10:=(HF0 0 _ _ _ (by decide) (by rfl)).1
       have d11:=(HF0 1 _ _ _ (by decide) (by rfl)).1
       have d12:=(HF0 2 _ _ _ (by decide) (by rfl)).1
       have d13:=(HF0 3 _ _ _ (by decide) (by rfl)).1
       clear HF0
       have hb0n:¬b0=n4+1:=fun h9=>by
        have h8:=HL3.out.2 (by simp[fldsQ]) b0 rfl
        omega
       have M3:=zh (Mod.refl (fun j=>j=n4+1) w3)
       go_upto_region 30 with fail
       refine zg (fun w'=>Mod (fun j=>j=n4+1) w3 w') (M3.out.ext (Ext.drew (Ext.refl _))) fun hHeld=>?_
       obtain⟨D,hD⟩:=zn (World.drew w3)
       have ED:Ext w3 D:=by rw[hD];exact(Ext.refl _).drew
       rw[←hD] at hHeld⊢
       clear hD
       refine zr 0 ?_
       refine zr 1 ?_
       refine zr 2 ?_
       (refine zu 3 (fun _ h=>(h.cell b0 (of0+1) hb0l hb0n).trans d10) ?_)
       refine zr 4 ?_
       refine zr 5 ?_
       refine zr 6 ?_
       (refine zu 7 (fun _ h=>(h.cell b0 (of0+5) hb0l hb0n).trans d11) ?_)
       refine zr 8 ?_
       refine zr 9 ?_
       refine zr 10 ?_
       (refine zu 11 (fun _ h=>(h.cell b0 (of0+9) hb0l hb0n).trans d12) ?_)
       refine zr 12 ?_
       refine zr 13 ?_
       refine zr 14 ?_
       (refine zu 15 (fun _ h=>(h.cell b0 (of0+13) hb0l hb0n).trans d13) ?_)
       have B6:=zh (show Blk D (n4+1) 46 #[.int .i64 6,.string ⟨#[]⟩,.string ⟨#[]⟩,.string ⟨#[]⟩,.int .u32 0,.int .u32 0,.int .u32 0,.int .u32 0,.slice none 0 0,.bool false,.int .u32 0] from B6.out.ext ED)
       have MM:=zh (M3.out.ext ED)
       clear ED
       (refine zU 16 (v:=.agg #[.int .u32 r.c1,.int .u32 r.c2,.int .u32 r.c3,.int .u32 r.c4]) rfl (Zae (by rfl) 35 _ rfl (by simp[go_sem];exact(by kernel_rfl))) ?_)
       refine zr 17 ?_
       have hth:D.there (n4+1) 4 4:=fun t ht=>⟨by
        rw[B6.out.cell]
        rcases t with _|_|_|_|t
        ·rfl
        ·rfl
        ·rfl
        ·rfl
        ·omega,B6.out.frozen _⟩
       (refine zw 18 fun K hK=>?_;rw[if_pos (by rfl)];refine wp_store_mid 35 _ _ rfl (n4+1) (4) (#[.int .u32 r.c1,.int .u32 r.c2,.int .u32 r.c3,.int .u32 r.c4]) rfl rfl hth hiZ (by simp[Value.oneCell']) ?_;refine zo hK (Mod.setCells [.int .u32 r.c1,.int .u32 r.c2,.int .u32 r.c3,.int .u32 r.c4] 4 w3 D MM.out) fun hHeld=>?_;clear hK K)
       have B6:=zh (show Blk (D.setCells (n4+1) 4 [.int .u32 r.c1,.int .u32 r.c2,.int .u32 r.c3,.int .u32 r.c4]) (n4+1) 46 #[.int .i64 6,.string ⟨#[]⟩,.string ⟨#[]⟩,.string ⟨#[]⟩,.int .u32 r.c1,.int .u32 r.c2,.int .u32 r.c3,.int .u32 r.c4,.slice none 0 0,.bool false,.int .u32 0] from Blk.setCells [.int .u32 r.c1,.int .u32 r.c2,.int .u32 r.c3,.int .u32 r.c4] 4 D _ B6.out (by simp))
       have MM:=zh (Mod.setCells [.int .u32 r.c1,.int .u32 r.c2,.int .u32 r.c3,.int .u32 r.c4] 4 w3 D MM.out)
       clear hth
       generalize World.setCells D (n4+1) 4 [.int .u32 r.c1,.int .u32 r.c2,.int .u32 r.c3,.int .u32 r.c4]=Dz30 at*
       refine zd ?_
       clear hHeld M3
       have M3:=MM
       clear MM
       go_wp2_with fail
       go_meet
       exact⟨none,0,zh B6.out,zh (RdS.nil _ _ _),M3⟩
      ·clear hk0
       have hN9:N=1:=by
        have h9:=HNN.out
        simp only[fldsQ,List.length_cons,List.length_nil] at h9
        omega
       subst hN9
       obtain⟨b0,of0,rfl,hb0l,HF0⟩:=Zb7 HL3.out.y (by decide)
       have d10:=(HF0 0 _ _ _ (by decide) (by rfl)).1
       obtain⟨fv,hfv⟩:∃fv:Int,(if r.on=true then(1:Int) else 0)=fv:=⟨_,rfl⟩
       have hfl:(fv==1)=r.on:=by rw[←hfv];exact ZmZ r.on
       rw[hfv] at d10
       clear hfv
       clear HF0
       have hb0n:¬b0=n4+1:=fun h9=>by
        have h8:=HL3.out.2 (by simp[fldsQ]) b0 rfl
        omega
       have M3:=zh (Mod.refl (fun j=>j=n4+1) w3)
       have q9:=B6.out.cell 9
       have f9:=B6.out.frozen 9
       simp only[rq0,List.getElem?_toArray,List.getElem?_cons_zero,List.getElem?_cons_succ] at q9
       go_wp2
       have B6:=zh (show Blk (w3.setCell ⟨n4+1,9,none⟩ (.bool r.on)) (n4+1) 46 #[.int .i64 7,.string ⟨#[]⟩,.string ⟨#[]⟩,.string ⟨#[]⟩,.int .u32 0,.int .u32 0,.int .u32 0,.int .u32 0,.slice none 0 0,.bool r.on,.int .u32 0] by simpa [rq0] using B6.out.set_ 9 (.bool r.on))
       have M3:=zh (M3.out.set1 (o:=9) (.bool r.on))
       skip
       go_meet
       exact⟨none,0,zh B6.out,zh (RdS.nil _ _ _),M3⟩
      ·clear hk0
       have hN9:N=1:=by
        have h9:=HNN.out
        simp only[fldsQ,List.length_cons,List.length_nil] at h9
        omega
       subst hN9
       obtain⟨b0,of0,rfl,hb0l,HF0⟩:=Zb7 HL3.out.y (by decide)
       obtain⟨At0,T0,ct0,-,d20,ht0⟩:=(HF0 0 _ _ _ (by decide) (by rfl)).2
       clear HF0
       have hb0n:¬b0=n4+1:=fun h9=>by
        have h8:=HL3.out.2 (by simp[fldsQ]) b0 rfl
        omega
       have M3:=zh (Mod.refl (fun j=>j=n4+1) w3)
       have q9:=B6.out.cell 1
       have f9:=B6.out.frozen 1
       simp only[rq0,List.getElem?_toArray,List.getElem?_cons_zero,List.getElem?_cons_succ] at q9
       have hcv:=ZcB ht0 (fun j hj he=>by omega) (Mod.refl (fun j=>j=n4+1) w3)
       go_wp2
       have B6:=zh (show Blk (w3.setCell ⟨n4+1,1,none⟩ (.string r.tx)) (n4+1) 46 #[.int .i64 8,.string r.tx,.string ⟨#[]⟩,.string ⟨#[]⟩,.int .u32 0,.int .u32 0,.int .u32 0,.int .u32 0,.slice none 0 0,.bool false,.int .u32 0] by simpa [rq0] using B6.out.set_ 1 (.string r.tx))
       have M3:=zh (M3.out.set1 (o:=1) (.string r.tx))
       skip
       go_meet
       exact⟨none,0,zh B6.out,zh (RdS.nil _ _ _),M3⟩
      ·clear hk0
       have hN9:N=1:=by
        have h9:=HNN.out
        simp only[fldsQ,List.length_cons,List.length_nil] at h9
        omega
       subst hN9
       obtain⟨b0,of0,rfl,hb0l,HF0⟩:=Zb7 HL3.out.y (by decide)
       have d10:=(HF0 0 _ _ _ (by decide) (by rfl)).1
       clear HF0
       have hb0n:¬b0=n4+1:=fun h9=>by
        have h8:=HL3.out.2 (by simp[fldsQ]) b0 rfl
        omega
       have M3:=zh (Mod.refl (fun j=>j=n4+1) w3)
       have q9:=B6.out.cell 10
       have f9:=B6.out.frozen 10
       simp only[rq0,List.getElem?_toArray,List.getElem?_cons_zero,List.getElem?_cons_succ] at q9
       go_wp2
       have B6:=zh (show Blk (w3.setCell ⟨n4+1,10,none⟩ (.int .u32 r.co)) (n4+1) 46 #[.int .i64 9,.string ⟨#[]⟩,.string ⟨#[]⟩,.string ⟨#[]⟩,.int .u32 0,.int .u32 0,.int .u32 0,.int .u32 0,.slice none 0 0,.bool false,.int .u32 r.co] by simpa [rq0] using B6.out.set_ 10 (.int .u32 r.co))
       have M3:=zh (M3.out.set1 (o:=10) (.int .u32 r.co))
       skip
       go_meet
       exact⟨none,0,zh B6.out,zh (RdS.nil _ _ _),M3⟩
      ·clear hk0
       have hN9:N=4:=by
        have h9:=HNN.out
        simp only[fldsQ,List.length_cons,List.length_nil] at h9
        omega
       subst hN9
       obtain⟨b0,of0,rfl,hb0l,HF0⟩:=Zb7 HL3.out.y (by decide)
       obtain⟨At0,T0,ct0,-,d20,ht0⟩:=(HF0 0 _ _ _ (by decide) (by rfl)).2
       have d11:=(HF0 1 _ _ _ (by decide) (by rfl)).1
       obtain⟨fv,hfv⟩:∃fv:Int,(if r.on=true then(1:Int) else 0)=fv:=⟨_,rfl⟩
       have hfl:(fv==1)=r.on:=by rw[←hfv];exact ZmZ r.on
       rw[hfv] at d11
       clear hfv
       obtain⟨At2,T2,ct2,-,d22,ht2⟩:=(HF0 2 _ _ _ (by decide) (by rfl)).2
       obtain⟨At3,T3,ct3,-,d23,ht3⟩:=(HF0 3 _ _ _ (by decide) (by rfl)).2
       clear HF0
       have hb0n:¬b0=n4+1:=fun h9=>by
        have h8:=HL3.out.2 (by simp[fldsQ]) b0 rfl
        omega
       have M3:=zh (Mod.refl (fun j=>j=n4+1) w3)
       go_upto_region 36 with fail
       refine zg (fun w'=>Mod (fun j=>j=n4+1) w3 w') (M3.out.ext (Ext.drew (Ext.refl _))) fun hHeld=>?_
       obtain⟨D,hD⟩:=zn (World.drew w3)
       have ED:Ext w3 D:=by rw[hD];exact(Ext.refl _).drew
       rw[←hD] at hHeld⊢
       clear hD
       refine zr 0 ?_
       refine zr 1 ?_
       refine zr 2 ?_
       (refine zu 3 (fun _ h=>(h.cell b0 (of0+2) hb0l hb0n).trans d20) ?_)
       (refine zu 4 (fun _ h=>ZcB ht0 (fun j hj he=>by omega) h) ?_)
       refine zr 5 ?_
       refine zr 6 ?_
       refine zr 7 ?_
       (refine zu 8 (fun _ h=>(h.cell b0 (of0+5) hb0l hb0n).trans d11) ?_)
       refine zr 9 ?_
       refine zr 10 ?_
       refine zr 11 ?_
       refine zr 12 ?_
       (refine zu 13 (fun _ h=>(h.cell b0 (of0+10) hb0l hb0n).trans d22) ?_)
       (refine zu 14 (fun _ h=>ZcB ht2 (fun j hj he=>by omega) h) ?_)
       refine zr 15 ?_
       refine zr 16 ?_
       refine zr 17 ?_
       (refine zu 18 (fun _ h=>(h.cell b0 (of0+14) hb0l hb0n).trans d23) ?_)
       (refine zu 19 (fun _ h=>ZcB ht3 (fun j hj he=>by omega) h) ?_)
       have B6:=zh (show Blk D (n4+1) 46 #[.int .i64 10,.string ⟨#[]⟩,.string ⟨#[]⟩,.string ⟨#[]⟩,.int .u32 0,.int .u32 0,.int .u32 0,.int .u32 0,.slice none 0 0,.bool false,.int .u32 0] from B6.out.ext ED)
       have MM:=zh (M3.out.ext ED)
       clear ED
       refine zr 20 ?_
       refine zs 21 1 B6 MM fun D B6 MM hHeld=>?_
       refine zr 22 ?_
       refine zs 23 9 B6 MM fun D B6 MM hHeld=>?_
       refine zr 24 ?_
       refine zs 25 2 B6 MM fun D B6 MM hHeld=>?_
       refine zr 26 ?_
       refine zs 27 3 B6 MM fun D B6 MM hHeld=>?_
       refine zd ?_
       clear hHeld M3
       have M3:=MM
       clear MM
       obtain⟨w4,rfl⟩:=zn (D)
       go_wp2_with fail
       go_meet
       exact⟨none,0,zh B6.out,zh (RdS.nil _ _ _),M3⟩
      ·omega
     case rest=>
      obtain⟨Am,cm,B6,HMO,M3⟩:=hcut
      have hn4:=HN4.out
      have B4:=zh (B4.out.mod M3.out (by omega))
      have E3:=zh (Mod.toExt E03.out M3.out (fun j hj he=>by omega))
      have HFT:=zh (HFT.out Am cm)
      obtain⟨q,hq⟩:=zm (ownQ r k)
      have HQ:=zh hq
      rw[hq] at B6 HMO HFT
      obtain⟨M,hM⟩:=zm (q.mo.length)
      rw[hM] at B6 HMO HFT
      clear HL3 q0 hq hM M3 E03
      go_wp2_with(first|(refine wpList_load_row rfl 46 _ rfl _ rfl 46 _ _ _ B6.out Tryz.underlying46 rfl hiQ ?_)|fail)
      refine(HFT.out _).mono ?_
      rintro e w8 ⟨rfl,E8⟩
      have B4:=zh (B4.out.ext E8)
      have B6:=zh (B6.out.ext E8)
      have HMO:=zh (HMO.out.ext E8)
      have E3:=zh (E3.out.trans E8)
      clear HFT E8
      go_wp2_with(first|(refine wpList_load_row rfl 46 _ rfl _ rfl 46 _ _ _ B6.out Tryz.underlying46 rfl hiQ ?_)|(refine wpList_store_M rfl 46 _ _ rfl n4 _ rfl rfl 46 _ B4.out hiQ rfl (by simp[Value.oneCell']) ?_;intro w10 P10 M10))
      refine bodyPost_ret_by (Kb.Zab Tryz.results30 _ _ n4 46 _ _ _ rfl _ rfl P10 Tryz.underlying46 rfl hiQ) rfl ?_
      exact⟨.slice Am M cm,by rw[HQ.out];rfl,by rw[HQ.out];exact(HMO.out.mod M10 (fun j _ hj he=>by omega)).mono (fun j _ hj=>by omega),Mod.toExt E3.out M10 (fun j hj he=>by omega)⟩
end Go.Proofs.YtmmhcllibpmfnaaGreatDoor
namespace Go.Proofs.YtmmhcllibpmfnaaGreatDoor
open Go.RowKit Go.Kb
theorem Zdz {P:Program}{fn:Func}{p:Tmp}{ty:TypeId}(h:fn.results=#[.cell p ty])(tmps:Array Value)(w:World)(g:Nat)(t:TypeId)(cs:Array Value)(fr:Nat×Nat)(d:TypeDesc)
 (hp:tmps.getD p undef= .pointer (some ⟨g,0,none⟩)) (hg:w.heap[g]?=some (.cells cs t fr))
 (hu:P.underlying ty=some d) (hd:(match d with| .struct _| .array _ _=>true|_=>false)=true) (hi:(P.info? ty).map (·.size)=some cs.size):
 (results fn tmps).run P w= .ok (.agg cs) w:=by
 have hp':tmps[p]?.getD undef= .pointer (some ⟨g,0,none⟩):=by simpa using hp
 simp[results,h,hp',asAddr,run_loadVar_row w g t ty cs fr d hg hu hd hi]
theorem ZlQ:(Tryz.prog.info? 128).map (fun i=>(i.zero,i.size,i.bytes))=some (some (.agg #[.string ⟨#[]⟩,.string ⟨#[]⟩]),Zbc.size,32):=by kernel_rfl
theorem ZlR {A:Nat→Prop}(s:Sn)(ev:Value)(w:World)(hs:s.Ok)(hev:RdY Zbc A w ev s.env):
 Calls Tryz.prog 29 #[.agg (sesV s ev)] w fun e w'=>∃ev',e= .returned (.agg (sesV s ev'))∧OwnS Zbc 128 w.heap.size (fun _=>False) w' ev' s.env∧Ext w w':=by
 have hiSA:∀ (s:Sn) (ev:Value),s.t.Ok→(Tryz.prog.info? 42).map (·.size)=some (sesV s ev).size:=fun s ev h=>by rw[List.size_toArray,sesC_len h];kernel_rfl
 obtain⟨Ae,ce,rfl,-,-⟩:=hev.shape
 obtain⟨n,hn⟩:=zm (s.env.length)
 have hn16:n≤16:=by rw[←hn];exact hs.en
 have HN:=zh hn
 rw[hn] at hev⊢
 obtain⟨W1,hW1⟩:=zn ((w.alloc (.cells (sesV s (.slice Ae n ce)) 42)).alloc (.cells ses0.toArray 42))
 have E1:Ext w W1:=by rw[hW1];exact((Ext.refl _).alloc _).alloc _
 have B1:=zh (show Blk W1 w.heap.size 42 (sesV s (.slice Ae n ce)) by rw[hW1];exact(Blk.new w _ _).alloc _)
 have B2:=zh (show Blk W1 (w.heap.size+1) 42 ses0.toArray by rw[hW1];exact Blk.at_ _ _ (by simp))
 have HW1:=zh (show W1=(w.alloc (.cells (sesV s (.slice Ae n ce)) 42)).alloc (.cells ses0.toArray 42) from hW1)
 have HEV:=zh (hev.ext E1)
 have HS:=zh hs
 have k30:=B1.out.cell 30
 rw[Ze6 hs.t] at k30
 have E1:=zh E1
 clear hn hs hev hW1
 go_enter Tryz.func29,Tryz.ntmps29
 go_upto_region 1 with fail
 first|rw[←HW1.out]|(change Code.wp _ _ _ _ ((w.alloc (.cells (sesV s (.slice Ae n ce)) 42)).alloc (.cells ses0.toArray 42));rw[←HW1.out])
 clear HW1
 obtain⟨W2,hW2⟩:=zn (W1.alloc (.cells #[] 128))
 have E2:Ext W1 W2:=by rw[hW2];exact(Ext.refl _).alloc _
 have BL:=zh (show Blk W2 W1.heap.size 128 #[] by rw[hW2];exact Blk.new W1 _ _)
 have HW2:=zh hW2
 have hz1:=B2.out.lt
 have hz2:=E2.size
 have B12:=zh (B1.out.ext E2)
 have B22:=zh (B2.out.ext E2)
 have HEV2:=zh (HEV.out.ext E2)
 have k30:=Zaa E2 k30
 rw[hW2] at k30
 have hbl:=B22.out.lt
 have E2:=zh E2
 clear hW2 B1 B2 HEV
 go_upto_region 2 with(at_builtin;(first|rw[←HW2.out]|skip);refine wpList_app (e:=Zbc) (base:=W1.heap.size) (B:=fun _=>False) (A:=fun _=>False) rfl (.tmp 3) (.tmp 5) rfl Tryz.underlying40 ZlQ rfl (OwnS.emptyB Zbc _ BL.out (Nat.le_refl _)) rfl (Zlw HEV2.out) rfl (fun _ _ h=>h.elim) (N:=n) (by rw[HN.out];simp) (by unfold maxLen;omega) (by omega) (by omega) ?_;intro A3 c3 w3 o3 M3 _;have B13:=zh (B12.out.mod M3 (by intro h9;have h8:W1.heap.size=w.heap.size:=Option.some.inj h9;omega));have f30:=B13.out.frozen 30;have q30:=B13.out.cell 30;rw[Ze6 HS.out.t] at q30)
 obtain⟨w4,hw4⟩:=zn (w3.setCell ⟨w.heap.size,30,none⟩ (.slice A3 n c3))
 have B14:=zh (show Blk w4 w.heap.size 42 (sesV s (.slice A3 n c3)) by
  have h9:=B13.out.set_ 30 (.slice A3 n c3)
  rw[Zew HS.out.t] at h9
  rw[hw4]
  exact h9)
 have M34:Mod (fun k=>k=w.heap.size) w3 w4:=by rw[hw4];exact(Mod.refl _ _).set1 _
 rw[←hw4]
 clear hw4
 have B24:=zh ((B22.out.mod M3 (by intro h9;have h8:W1.heap.size=w.heap.size+1:=Option.some.inj h9;omega)).mod M34 (by omega))
 have hO:=(o3.mod M34 (fun k hk he=>Zai o3 B13.out (by decide) (by rw[hk,he])) (fun k _ hk=>hk.elim))
 rw[List.nil_append] at hO
 have HO:=zh hO
 have E04:=zh (show Ext w w4 from by
  have M13:Ext W1 w3:=Mod.toExt E2.out M3 (fun k hk he=>by have h8:W1.heap.size=k:=Option.some.inj he;omega)
  exact Mod.toExt (E1.out.trans M13) M34 (fun k hk he=>by omega))
 have hone:(sesV s (.slice A3 n c3)).all (·.oneCell')=true:=sesC_one s _ rfl
 clear B13 M3 M34 o3 hO BL HW2 k30 f30 q30 B12 B22 HEV2
 go_wp2_with(first|(refine wpList_load_row rfl 42 _ rfl _ rfl 42 _ _ _ B14.out Tryz.underlying42 rfl (hiSA _ _ HS.out.t) ?_)|(refine wpList_store_M rfl 42 _ _ rfl (w.heap.size+1) _ rfl rfl 42 _ B24.out (hiSA _ _ HS.out.t) (by show ses0.length=(sesC s (.slice A3 n c3)).length;rw[sesC_len HS.out.t];rfl) hone ?_;intro w5 P5 M5)|fail)
 have HO5:=HO.out.mod M5 (fun k hk he=>by have:=(HO.out.row k hk).1;omega) (fun k _ hk=>hk.elim)
 refine bodyPost_ret_by (Zdz Tryz.results29 _ _ (w.heap.size+1) 42 _ _ _ rfl P5 Tryz.underlying42 rfl (hiSA _ _ HS.out.t)) rfl ?_
 exact⟨_,rfl,HO5.lower (by omega),Mod.toExt E04.out M5 (fun k hk he=>by omega)⟩
theorem Zr7 {l:List UInt8}{c:UInt8}{k:Nat}(h:l[k]?=some c)(hn:∀j,j<k→l[j]?≠some c):Go.Lib.indexByte l c=k:=by
 have hge:=Go.Lib.indexByte_ge l c
 by_cases h1:Go.Lib.indexByte l c= -1
 ·exact absurd h (Go.Lib.indexByte_none h1 k)
 ·obtain⟨o,ho⟩:=Int.eq_ofNat_of_zero_le (show 0≤Go.Lib.indexByte l c by omega)
  obtain⟨h2,h3⟩:=Go.Lib.indexByte_some ho
  rw[ho]
  rcases Nat.lt_trichotomy o k with h4|h4|h4
  ·exact absurd h2 (hn o h4)
  ·rw[h4]
  ·exact absurd h (h3 k h4)
theorem Zr8 {s:ByteArray}{j:Nat}{x:Int}(h:(bsL s)[j]?=some x):∃u:UInt8,s.data.toList[j]?=some u∧x=(u.toNat:Int):=by
 unfold bsL at h
 rw[List.getElem?_map] at h
 obtain⟨u,h1,h2⟩:=Option.map_eq_some_iff.1 h
 exact⟨u,h1,h2.symm⟩
theorem ZlS {s:ByteArray}{j:Nat}:(bsL s)[j]?=some 32↔s.data.toList[j]?=some 32:=by
 constructor
 ·intro h
  obtain⟨u,h1,h2⟩:=Zr8 h
  have:u=32:=UInt8.toNat_inj.1 (by simpa using(by omega:u.toNat=32))
  rw[h1,this]
 ·intro h
  unfold bsL
  rw[List.getElem?_map,h]
  rfl
theorem ZqA {s:ByteArray}{k:Nat}(h:(bsL s)[k]?=some 32)(hn:∀j,j<k→(bsL s)[j]?≠some 32):Zgn s=s.extract 0 k:=by
 have h1:=Zr7 (ZlS.1 h) (fun j hj h9=>hn j hj (ZlS.2 h9))
 unfold Zgn
 rw[h1,if_neg (by omega)]
 rfl
theorem ZqB {s:ByteArray}(hn:∀j,j<s.size→(bsL s)[j]?≠some 32):Zgn s=s:=by
 unfold Zgn
 rw[if_pos]
 refine ZiB (fun hm=>?_)
 obtain⟨j,hj,h9⟩:=List.getElem_of_mem hm
 have h8:s.data.toList[j]?=some 32:=by rw[List.getElem?_eq_getElem hj,h9]
 exact hn j (by simpa using hj) (ZlS.2 h8)
theorem ZgR (s:ByteArray)(w:World)(hs:s.size≤100000000):Calls Tryz.prog 34 #[.string s] w fun e w'=>e= .returned (.string (Zgn s))∧Ext w w':=by
 have HIX:=zh (ZhW s)
 have HAT:=zh (fun k h hn=>ZqA (s:=s) (k:=k) h hn)
 have HNO:=zh (fun hn=>ZqB (s:=s) hn)
 obtain⟨cu,hcu⟩:=zm (Zgn s)
 rw[hcu] at HAT HNO⊢
 clear hcu
 go_enter Tryz.func34,Tryz.ntmps34
 go_wp2
 go_loopw [3] (fun i wr=>∃m:Nat,m≤s.size∧i= .int .i64 m∧Hid (∀j,j<m→(bsL s)[j]?≠some 32)∧Hid (Ext w wr)) (fun i _=>s.size - (intOf i).toNat)
 case atStart=>exact⟨0,Nat.zero_le _,rfl,zh (fun j hj=>by omega),zh (Ext.refl _)⟩
 case round=>
  obtain⟨m,hm,rfl,hJ,hE⟩:=hrel
  by_cases hmn:m<s.size
  ·obtain⟨c,hc,hix⟩:=HIX.out m hmn
   have hmi:(m:Int)<(s.size:Int):=by omega
   have hm0:(0:Int)≤(m:Int):=by omega
   have hm1:(m:Int)≤(s.size:Int):=by omega
   by_cases h32:c=32
   ·subst h32
    have HC:=zh (HAT.out m hc.out hJ.out)
    go_wp2
    go_ret
    exact⟨by rw[←HC.out];simp,hE.out⟩
   ·go_wp2
    go_roundw
    case rel=>exact⟨m+1,by omega,by go_num,zh (fun j hj=>by
     by_cases h9:j=m
     ·subst h9
      rw[hc.out]
      exact fun h8=>h32 (Option.some.inj h8)
     ·exact hJ.out j (by omega)),hE⟩
    case measure=>simp[intOf];omega
  ·obtain rfl:m=s.size:=by omega
   have HC:=zh (HNO.out hJ.out)
   go_wp2
   go_ret
   exact⟨by rw[HC.out];simp,hE.out⟩
theorem Zr9 {l:List (ByteArray×List Po)}{x:ByteArray}{k:Nat}{d:ByteArray×List Po}(h:l[k]?=some d)(hd:(d.1.toList==x.toList)=true)(hn:∀j d,j<k→l[j]?=some d→(d.1.toList==x.toList)=false):fndP (l.map (·.1)) x=k:=by
 unfold fndP
 refine ZaZ (p:=d.1) (by rw[List.getElem?_map,h];rfl) (fun q hq=>?_) hd
 obtain⟨j,hj,h9⟩:=List.getElem_of_mem hq
 rw[List.length_take] at hj
 have h8:((l.map (·.1)).take k)[j]?=some q:=by rw[List.getElem?_eq_getElem (by rw[List.length_take];exact hj),h9]
 rw[List.getElem?_take_of_lt (by omega),List.getElem?_map] at h8
 obtain⟨u,h1,h2⟩:=Option.map_eq_some_iff.1 h8
 rw[←h2]
 exact hn j u (by omega) h1
theorem Zsa {l:List (ByteArray×List Po)}{x:ByteArray}(hn:∀j d,j<l.length→l[j]?=some d→(d.1.toList==x.toList)=false):fndP (l.map (·.1)) x= -1:=by
 unfold fndP
 refine ZaD (fun p hp=>?_)
 obtain⟨d,hd,rfl⟩:=List.mem_map.1 hp
 obtain⟨j,hj,h9⟩:=List.getElem_of_mem hd
 exact hn j d hj (by rw[List.getElem?_eq_getElem hj,h9])
theorem ZlT (v:Value)(l:List (ByteArray×List Po))(x:ByteArray)(w:World)(h:RdY PqR (fun _=>True) w v l):
 Calls Tryz.prog 35 #[v,.string x] w fun e w'=>e= .returned (.tuple #[.int .i64 (if 0≤fndP (l.map (·.1)) x then fndP (l.map (·.1)) x else 0),.bool (decide (0≤fndP (l.map (·.1)) x))])∧Ext w w':=by
 have hiP:∀a b:Value,(Tryz.prog.info? 134).map (·.size)=some [a,b].length:=fun _ _=>by kernel_rfl
 obtain⟨Ad,c,rfl,hc1,hc2⟩:=h.shape
 have H:=zh h
 have HAT:=zh (fun k d h1 h2 h3=>Zr9 (l:=l) (x:=x) (k:=k) (d:=d) h1 h2 h3)
 have HNO:=zh (fun hn=>Zsa (l:=l) (x:=x) hn)
 obtain⟨f,hf⟩:=zm (fndP (l.map (·.1)) x)
 rw[hf] at HAT HNO⊢
 obtain⟨n,hn⟩:=zm (l.length)
 rw[hn] at H hc1 HNO⊢
 clear h hn hf
 go_enter Tryz.func35,Tryz.ntmps35
 go_wp2
 go_loopw [10] (fun i wr=>∃m:Nat,m≤n∧i= .int .i64 m∧Hid (∀j d,j<m→l[j]?=some d→(d.1.toList==x.toList)=false)∧Hid (Ext w wr)) (fun i _=>n - (intOf i).toNat)
 case atStart=>exact⟨0,Nat.zero_le _,rfl,zh (fun j d hj=>by omega),zh (Ext.refl _)⟩
 case round=>
  obtain⟨m,hm,rfl,hJ,hE⟩:=hrel
  by_cases hlt:m<n
  ·obtain⟨b,off,nm,ops,A2,c2,rfl,HCELL,hd,HR2⟩:=Zn4 (H.out.ext hE.out) hlt
   obtain⟨W9,hW9⟩:=zn (wr.alloc (.cells #[.string nm,.slice A2 ops.length c2] 134))
   have E9:=zh (show Ext w W9 from hE.out.trans (by rw[hW9];exact(Ext.refl _).alloc _))
   have P9:=zh (show Blk W9 wr.heap.size 134 #[.string nm,.slice A2 ops.length c2] by rw[hW9];exact Blk.new wr _ _)
   have k0:=P9.out.cell 0
   simp only[List.getElem?_toArray,List.getElem?_cons_zero] at k0
   have HW9:=zh hW9
   obtain⟨q,hq⟩:=zm ((nm.toList==x.toList))
   have HQ:=zh hq
   clear hW9 HR2
   go_upto_region 4 with(refine wpList_load_mid rfl 134 _ rfl b (off+m*2) rfl [.string nm,.slice A2 ops.length c2] _ HCELL.out Tryz.underlying134 rfl (hiP _ _) ?_)
   rw[←HW9.out]
   clear HW9 HCELL
   cases q with
   |true=>
    have HF:=zh (HAT.out m (nm,ops) hd.out HQ.out hJ.out)
    obtain rfl:f=(m:Int):=HF.out
    have hm0:(0:Int)≤(m:Int):=by omega
    go_wp2
    go_ret2
    exact⟨by simp,E9.out⟩
   |false=>
    go_wp2
    go_roundw
    case rel=>exact⟨m+1,by omega,by go_num,zh (fun j d hj h8=>by
     by_cases h9:j=m
     ·subst h9
      rw[hd.out] at h8
      rw[←Option.some.inj h8]
      exact HQ.out
     ·exact hJ.out j d (by omega) h8),E9⟩
    case measure=>simp[intOf];omega
  ·obtain rfl:m=n:=by omega
   obtain rfl:f= -1:=HNO.out hJ.out
   go_wp2
   go_ret2
   exact⟨by simp,hE.out⟩
end Go.Proofs.YtmmhcllibpmfnaaGreatDoor
