/- Parts Bits SG28 MD28 PA28 PB28 PC28 MB28 PD28 KX28 NE28 UA28 UB28. No condition. -/
import Derived.Test.YtmmhcllibpmfnaaGreatDoorYB01
import Derived.Test.YtmmhcllibpmfnaaGreatDoorYB03
import Derived.Test.YtmmhcllibpmfnaaGreatDoorYB07
import Derived.IntWalk
import Derived.Laws.BitsAllLaws
import Derived.Test.YtmmhcllibpmfnaaGreatDoorChecked
import Derived.DeepKeys
import Derived.Laws.Shifts
import Derived.Laws.ShiftsVarLaws
import Derived.Laws.StructEq
import Derived.Test.YtmmhcllibpmfnaaGreatDoorRows
import Derived.Deep.Cut
import Derived.Deep.DeepCutAuto
import Derived.Test.YtmmhcllibpmfnaaGreatDoorLay28
import Derived.Maps.OwnOps
import Derived.Maps.OwnSet
import Derived.StringKeys
import Derived.Deep.MidRow
import Derived.Deep.RegionHeld3
set_option maxRecDepth 100000
set_option maxHeartbeats 8000000
namespace Go.Kb.Bits
open Go.RowKit Go.Kb
def pw (op:Int):Int:=2 ^ op.toNat
theorem Zb6 {op:Int}(h:0≤op∧op≤63):1≤pw op∧pw op≤9223372036854775808:=by
 unfold pw
 have h1:2 ^ op.toNat≤2 ^ 63:=Nat.pow_le_pow_right (by decide) (by omega)
 have h2:0<2 ^ op.toNat:=Nat.two_pow_pos _
 have h3:(2:Int) ^ op.toNat=((2 ^ op.toNat:Nat):Int):=by simp
 rw[h3]
 omega
theorem ZcS:∀ (n x y:Nat),x<2 ^ n→(x|||y)+(x&&&y)=x+y:=by
 intro n
 induction n with
 |zero=>intro x y h;obtain rfl:x=0:=by omega
        simp
 |succ n ih=>
  intro x y h
  have h1:=ih (x/ 2) (y/ 2) (by rw[Nat.pow_succ] at h;omega)
  have h2:=Nat.or_div_two (a:=x) (b:=y)
  have h3:=Nat.and_div_two (a:=x) (b:=y)
  have h4:=Nat.or_mod_two_eq_one (a:=x) (b:=y)
  have h5:=Nat.and_mod_two_eq_one (a:=x) (b:=y)
  omega
theorem Zb0:∀ (n x y:Nat),x<2 ^ n→y<2 ^ n→(x&&& (2 ^ n - 1 - y))+(x&&&y)=x:=by
 intro n
 induction n with
 |zero=>intro x y h h2;obtain rfl:x=0:=by omega
        simp
 |succ n ih=>
  intro x y h hy
  rw[Nat.pow_succ] at*
  have h1:=ih (x/ 2) (y/ 2) (by omega) (by omega)
  have h0:(2 ^ n*2 - 1 - y)/ 2=2 ^ n - 1 - y/ 2:=by omega
  have h2:=Nat.and_div_two (a:=x) (b:=2 ^ n*2 - 1 - y)
  have h3:=Nat.and_div_two (a:=x) (b:=y)
  have h4:=Nat.and_mod_two_eq_one (a:=x) (b:=2 ^ n*2 - 1 - y)
  have h5:=Nat.and_mod_two_eq_one (a:=x) (b:=y)
  rw[h0] at h2
  omega
def onL (f op:Int):Bool:=decide (f/ pw op % 2=1)
theorem ZkN {op:Int}:pw op=((2 ^ op.toNat:Nat):Int):=by simp[pw]
theorem Zgq {f op:Int}(hf:0≤f∧f<18446744073709551616)(ho:0≤op∧op≤63):bits .and .u64 f (pw op)=if onL f op then pw op else 0:=by
 have h:=Zb6 ho
 rw[u64_and f (pw op) hf.1 hf.2 (by omega) (by omega)]
 obtain⟨X,rfl⟩:=Int.eq_ofNat_of_zero_le hf.1
 unfold onL
 rw[ZkN,Int.toNat_natCast,Int.toNat_natCast,nat_bit]
 generalize hP:2 ^ op.toNat=P
 have e:((X:Int)/ (P:Int) % 2)=((X/ P % 2:Nat):Int):=by simp
 rw[e]
 have h2:X/ P % 2=0∨X/ P % 2=1:=by omega
 rcases h2 with h2|h2<;>simp[h2]
theorem Zjp {f op:Int}(hf:0≤f∧f<18446744073709551616)(ho:0≤op∧op≤63):bits .or .u64 f (pw op)=if onL f op then f else f+pw op:=by
 have h:=Zb6 ho
 have ha:=Zgq hf ho
 rw[u64_and f (pw op) hf.1 hf.2 (by omega) (by omega)] at ha
 rw[u64_or f (pw op) hf.1 hf.2 (by omega) (by omega)]
 have h1:=ZcS 64 f.toNat (pw op).toNat (by omega)
 by_cases hx:onL f op=true
 ·rw[if_pos hx] at ha⊢;omega
 ·rw[if_neg hx] at ha⊢;omega
theorem Zbn {f op:Int}(hf:0≤f∧f<18446744073709551616)(ho:0≤op∧op≤63):bits .andNot .u64 f (pw op)=if onL f op then f - pw op else f:=by
 have h:=Zb6 ho
 have ha:=Zgq hf ho
 rw[u64_and f (pw op) hf.1 hf.2 (by omega) (by omega)] at ha
 rw[u64_andNot f (pw op) hf.1 hf.2 (by omega) (by omega)]
 have h1:=Zb0 64 f.toNat (pw op).toNat (by omega) (by omega)
 have h2:(2:Nat) ^ 64 - 1=18446744073709551615:=by decide
 rw[h2] at h1
 by_cases hx:onL f op=true
 ·rw[if_pos hx] at ha⊢;omega
 ·rw[if_neg hx] at ha⊢;omega
theorem Zou {f op:Int}(hf:0≤f∧f<18446744073709551616)(ho:0≤op∧op≤63):IntKind.u64.wrap (f.tdiv (pw op))=f/ pw op∧0≤f/ pw op∧(f/ pw op).tmod 2=f/ pw op % 2∧IntKind.u64.wrap (f/ pw op % 2)=f/ pw op % 2:=by
 have h:=Zb6 ho
 have h1:0≤f/ pw op:=Int.ediv_nonneg hf.1 (by omega)
 have h2:f/ pw op≤f:=Int.ediv_le_self _ hf.1
 have h3:f.tdiv (pw op)=f/ pw op:=Int.tdiv_eq_ediv_of_nonneg hf.1
 refine⟨?_,h1,Int.tmod_eq_emod_of_nonneg h1,?_⟩
 ·rw[h3,IntKind.wrap_u64];omega
 ·rw[IntKind.wrap_u64];omega
def ZbD (f op:Int)(on:Bool):Int:=if on then(if onL f op then f else f+pw op) else if onL f op then f - pw op else f
theorem ZcT {f op:Int}(on:Bool)(hf:0≤f∧f<18446744073709551616)(ho:0≤op∧op≤63):0≤ZbD f op on∧ZbD f op on<18446744073709551616:=by
 have h:=Zb6 ho
 have h1:=Zjp hf ho
 have h2:=Zbn hf ho
 have w1:0≤bits .or .u64 f (pw op)∧bits .or .u64 f (pw op)<18446744073709551616:=by
  have:bits .or .u64 f (pw op)=IntKind.u64.wrap (bits .or .u64 f (pw op)):=by
   rw[u64_or f (pw op) hf.1 hf.2 (by omega) (by omega),IntKind.wrap_u64]
   have:=Nat.or_lt_two_pow (x:=f.toNat) (y:=(pw op).toNat) (n:=64) (by omega) (by omega)
   omega
  rw[this,IntKind.wrap_u64]
  omega
 have w2:0≤bits .andNot .u64 f (pw op)∧bits .andNot .u64 f (pw op)<18446744073709551616:=by
  rw[u64_andNot f (pw op) hf.1 hf.2 (by omega) (by omega)]
  have:=Nat.and_le_left (n:=f.toNat) (m:=18446744073709551615 - (pw op).toNat)
  omega
 unfold ZbD
 cases on
 ·rw[←h2] at*
  simpa using w2
 ·rw[←h1] at*
  simpa using w1
end Go.Kb.Bits
namespace Go.Proofs.YtmmhcllibpmfnaaGreatDoor.Sg
open Go.RowKit Go.Kb Go.Kb.Bits
def ZkO:List ByteArray:=[⟨#[]⟩,⟨#[72,85,80]⟩,⟨#[73,78,84]⟩,⟨#[81,85,73,84]⟩,⟨#[73,76,76]⟩,⟨#[84,82,65,80]⟩,⟨#[65,66,82,84]⟩,⟨#[66,85,83]⟩,⟨#[70,80,69]⟩,⟨#[75,73,76,76]⟩,⟨#[85,83,82,49]⟩,⟨#[83,69,71,86]⟩,⟨#[85,83,82,50]⟩,⟨#[80,73,80,69]⟩,⟨#[65,76,82,77]⟩,⟨#[84,69,82,77]⟩,⟨#[]⟩,⟨#[67,72,76,68]⟩,⟨#[67,79,78,84]⟩,⟨#[83,84,79,80]⟩,⟨#[84,83,84,80]⟩,⟨#[84,84,73,78]⟩,⟨#[84,84,79,85]⟩,⟨#[]⟩,⟨#[]⟩,⟨#[]⟩,⟨#[]⟩,⟨#[]⟩,⟨#[87,73,78,67,72]⟩]
def nameB (k:Nat):ByteArray:=ZkO.getD k ⟨#[]⟩
def namesA:Array Value:=(ZkO.map Value.string).toArray
def isL (sig:Int):Bool:=decide ((1≤sig∧sig≤15)∨(17≤sig∧sig≤22)∨sig=28)
theorem Zel {sig:Int}(h:isL sig=true):1≤sig∧sig≤28:=by
 simp[isL] at h;omega
theorem Zem (k:Nat)(hk:k<29):∀w,(Instr.index 411 (.agg namesA) (.int .i64 (k:Int))).run Tryz.prog w= .ok (.string (nameB k)) w:=by
 rcases k with _|_|_|_|_|_|_|_|_|_|_|_|_|_|_|_|_|_|_|_|_|_|_|_|_|_|_|_|_|k
 all_goals first|exact fun w=>by kernel_rfl|omega
theorem Zhg (k:Nat)(hk:k<29):(nameB k).toList.isEmpty=!isL (k:Int):=by
 have:∀k:Nat,k<29→(nameB k).toList.isEmpty=!isL (k:Int):=by decide+kernel
 exact this k hk
theorem Ze0:(Tryz.prog.info? 411).map (·.size)=some namesA.size:=by kernel_rfl
theorem Zgr:namesA.all (·.oneCell')=true:=by kernel_rfl
theorem Ze1:namesA.size=29:=by kernel_rfl
theorem Zen (w:World):Calls Tryz.prog 332 #[] w fun e w'=>e= .returned (.agg namesA)∧Ext w w':=by
 have hi:=Ze0
 have h1:=Zgr
 have hz:=Ze1
 go_enter Tryz.func332,Tryz.ntmps332
 go_wp2_with(first
  |(refine wpList_build_eq rfl 411 _ rfl (L:=namesA) (by kernel_rfl) ?_)
  |(refine wpList_store_A rfl 411 _ _ rfl w.heap.size _ rfl rfl 411 _ (Blk.at_ _ _ rfl) hi (by rw[hz];rfl) h1 ?_;intro w2 H2 E2;have E2:Ext w w2:=E2 w.heap.size w zX (Nat.le_refl _)))
 refine bodyPost_ret_by (results_cell_row Tryz.results332 _ _ w.heap.size 411 _ _ _ rfl H2 Tryz.underlying411 rfl hi) rfl ?_
 exact⟨rfl,E2⟩
theorem Zds (sig:Int)(w:World):Calls Tryz.prog 296 #[.int .i64 sig] w fun e w'=>e= .returned (.bool (isL sig))∧Ext w w':=by
 by_cases h0:0<sig
 ·by_cases h28:sig≤28
  ·obtain⟨k,rfl⟩:=Int.eq_ofNat_of_zero_le (show 0≤sig by omega)
   have hix:=Zem k (by omega)
   have hnm:=Zhg k (by omega)
   generalize isL (k:Int)=r at*
   generalize nameB k=b at*
   go_enter Tryz.func296,Tryz.ntmps296
   have hN:=fun w'=>Zen w'
   generalize namesA=A at*
   go_wp2_with((go_at_call 332;(with_reducible refine(hN _).mono ?_);rintro e w1 ⟨rfl,E1⟩))
   go_ret
   exact⟨by simp,E1⟩
  ·have hr:isL sig=false:=by simp[isL];omega
   rw[hr]
   go_enter Tryz.func296,Tryz.ntmps296
   go_wp2
   go_ret
   exact⟨rfl,zX⟩
 ·have hr:isL sig=false:=by simp[isL];omega
  rw[hr]
  go_enter Tryz.func296,Tryz.ntmps296
  go_wp2
  go_ret
  exact⟨rfl,zX⟩
theorem Zik (sig:Int)(w:World):Calls Tryz.prog 295 #[.int .i64 sig] w fun e w'=>e= .returned (.tuple #[.string (if isL sig then nameB sig.toNat else⟨#[]⟩),.bool (isL sig)])∧Ext w w':=by
 have hI:=zh fun w'=>Zds sig w'
 cases hs:isL sig
 ·rw[hs] at hI
  go_enter Tryz.func295,Tryz.ntmps295
  go_wp2_with((go_at_call 296;(with_reducible refine(hI.out _).mono ?_);rintro e w1 ⟨rfl,E1⟩))
  go_ret2
  exact⟨rfl,E1⟩
 ·rw[hs] at hI
  have hb:=Zel hs
  obtain⟨k,rfl⟩:=Int.eq_ofNat_of_zero_le (show 0≤sig by omega)
  have hix:=Zem k (by omega)
  simp only[Int.toNat_natCast]
  generalize nameB k=b at*
  have hN:=fun w'=>Zen w'
  generalize namesA=A at*
  go_enter Tryz.func295,Tryz.ntmps295
  go_wp2_with(first|((go_at_call 296;(with_reducible refine(hI.out _).mono ?_);rintro e w1 ⟨rfl,E1⟩))|((go_at_call 332;(with_reducible refine(hN _).mono ?_);rintro e w2 ⟨rfl,E2⟩)))
  go_ret2
  exact⟨rfl,zX⟩
theorem Znc (sig:Int)(w:World):Calls Tryz.prog 297 #[.int .i64 sig] w fun e w'=>e= .returned (.bool (sig==9||sig==19))∧Ext w w':=by
 have hs:(sig==9||sig==19)=(decide (sig=9)||decide (sig=19)):=by rw[Bool.eq_iff_iff];simp
 rw[hs]
 by_cases h9:sig=9
 ·subst h9
  go_enter Tryz.func297,Tryz.ntmps297
  go_wp2
  go_ret
  exact⟨rfl,zX⟩
 ·by_cases h19:sig=19
  ·subst h19
   go_enter Tryz.func297,Tryz.ntmps297
   go_wp2
   go_ret
   exact⟨rfl,zX⟩
  ·rw[decide_eq_false h9,decide_eq_false h19]
   have b9:(sig==9)=false:=by simpa using h9
   have b19:(sig==19)=false:=by simpa using h19
   clear h9 h19 hs
   go_enter Tryz.func297,Tryz.ntmps297
   go_wp2
   go_ret
   exact⟨rfl,zX⟩
def arrV (a:List Int):Array Value:=(a.map (Value.int .i64)).toArray
def zero32:List Int:=List.replicate 32 0
def badAct (sig how:Int):Bool:=!isL sig|| (sig==9||sig==19)||decide (how<0)||decide (2<how)
def actL (a:List Int)(sig how:Int):List Int×Int:=if badAct sig how then(zero32,2) else(a.set sig.toNat how,0)
theorem Zcx {a:List Int}(h:a.length=32):(arrV a).size=32:=by simp[arrV,h]
theorem ZdW (a:List Int):(arrV a).all (·.oneCell')=true:=by
 simp only[arrV,List.all_toArray,List.all_map,List.all_eq_true]
 intro x _
 rfl
theorem Znd (a:List Int)(k:Nat)(x:Int):(arrV a).setIfInBounds k (.int .i64 x)=arrV (a.set k x):=by
 apply Array.ext'
 simp[arrV,List.map_set]
theorem ZdX:(Tryz.prog.info? 232).map (·.size)=some 32:=by kernel_rfl
theorem ZpS (a:List Int)(sig how:Int)(w:World)(ha:a.length=32):Calls Tryz.prog 258 #[.agg (arrV a),.int .i64 sig,.int .i64 how] w fun e w'=>e= .returned (.tuple #[.agg (arrV (actL a sig how).1),.int .i64 (actL a sig how).2])∧Ext w w':=by
 have hz:=Zcx ha
 have h1:=zh (ZdW a)
 have HI:=zh fun w'=>Zds sig w'
 have HS:=zh fun w'=>Znc sig w'
 have hact:actL a sig how=if badAct sig how then(zero32,2) else(a.set sig.toNat how,0):=rfl
 have hbad:badAct sig how=(!isL sig|| (sig==9||sig==19)||decide (how<0)||decide (2<how)):=rfl
 have hset:=Znd a sig.toNat how
 have h1s:=zh (ZdW (a.set sig.toNat how))
 have hzs:=Zcx (a:=a.set sig.toNat how) (by rw[List.length_set];exact ha)
 have hbz:Tryz.prog.built 232 []=some (arrV zero32):=by kernel_rfl
 have h1z:=zh (ZdW zero32)
 have hzz:=Zcx (a:=zero32) rfl
 generalize actL a sig how=al at*
 generalize badAct sig how=bad at*
 generalize (sig==9||sig==19)=su at*
 have hbd:isL sig=true→1≤sig∧sig≤28:=Zel
 generalize isL sig=il at*
 generalize hcz:arrV zero32=cz at*
 generalize hcs2:arrV (a.set sig.toNat how)=cs2 at*
 generalize arrV a=cs at*
 have HCZ:=zh hcz
 have HC2:=zh hcs2
 have HST:=zh hset
 have hi:(Tryz.prog.info? 232).map (·.size)=some cs.size:=by rw[hz];exact ZdX
 have hiz:(Tryz.prog.info? 232).map (·.size)=some cz.size:=by rw[hzz];exact ZdX
 have hi2:(Tryz.prog.info? 232).map (·.size)=some cs2.size:=by rw[hzs];exact ZdX
 have hT:=zh ((Blk.new w 232 cs).alloc (.cells #[.int .i64 0,.int .i64 0,.int .i64 0,.int .i64 0,.int .i64 0,.int .i64 0,.int .i64 0,.int .i64 0,.int .i64 0,.int .i64 0,.int .i64 0,.int .i64 0,.int .i64 0,.int .i64 0,.int .i64 0,.int .i64 0,.int .i64 0,.int .i64 0,.int .i64 0,.int .i64 0,.int .i64 0,.int .i64 0,.int .i64 0,.int .i64 0,.int .i64 0,.int .i64 0,.int .i64 0,.int .i64 0,.int .i64 0,.int .i64 0,.int .i64 0,.int .i64 0] 232))
 have hR:=zh (show Blk ((w.alloc (.cells cs 232)).alloc (.cells #[.int .i64 0,.int .i64 0,.int .i64 0,.int .i64 0,.int .i64 0,.int .i64 0,.int .i64 0,.int .i64 0,.int .i64 0,.int .i64 0,.int .i64 0,.int .i64 0,.int .i64 0,.int .i64 0,.int .i64 0,.int .i64 0,.int .i64 0,.int .i64 0,.int .i64 0,.int .i64 0,.int .i64 0,.int .i64 0,.int .i64 0,.int .i64 0,.int .i64 0,.int .i64 0,.int .i64 0,.int .i64 0,.int .i64 0,.int .i64 0,.int .i64 0,.int .i64 0] 232)) (w.heap.size+1) 232 #[.int .i64 0,.int .i64 0,.int .i64 0,.int .i64 0,.int .i64 0,.int .i64 0,.int .i64 0,.int .i64 0,.int .i64 0,.int .i64 0,.int .i64 0,.int .i64 0,.int .i64 0,.int .i64 0,.int .i64 0,.int .i64 0,.int .i64 0,.int .i64 0,.int .i64 0,.int .i64 0,.int .i64 0,.int .i64 0,.int .i64 0,.int .i64 0,.int .i64 0,.int .i64 0,.int .i64 0,.int .i64 0,.int .i64 0,.int .i64 0,.int .i64 0,.int .i64 0] from Blk.at_ _ _ (by simp))
 have hz32:(#[.int .i64 0,.int .i64 0,.int .i64 0,.int .i64 0,.int .i64 0,.int .i64 0,.int .i64 0,.int .i64 0,.int .i64 0,.int .i64 0,.int .i64 0,.int .i64 0,.int .i64 0,.int .i64 0,.int .i64 0,.int .i64 0,.int .i64 0,.int .i64 0,.int .i64 0,.int .i64 0,.int .i64 0,.int .i64 0,.int .i64 0,.int .i64 0,.int .i64 0,.int .i64 0,.int .i64 0,.int .i64 0,.int .i64 0,.int .i64 0,.int .i64 0,.int .i64 0]:Array Value).size=cz.size:=by rw[hzz];rfl
 have hz322:(#[.int .i64 0,.int .i64 0,.int .i64 0,.int .i64 0,.int .i64 0,.int .i64 0,.int .i64 0,.int .i64 0,.int .i64 0,.int .i64 0,.int .i64 0,.int .i64 0,.int .i64 0,.int .i64 0,.int .i64 0,.int .i64 0,.int .i64 0,.int .i64 0,.int .i64 0,.int .i64 0,.int .i64 0,.int .i64 0,.int .i64 0,.int .i64 0,.int .i64 0,.int .i64 0,.int .i64 0,.int .i64 0,.int .i64 0,.int .i64 0,.int .i64 0,.int .i64 0]:Array Value).size=cs2.size:=by rw[hzs];rfl
 have HZ:=zh hz32
 have HZ2:=zh hz322
 clear hcz hcs2 hz32 hz322 hset ha
 cases il
 ·have hb:bad=true:=by rw[hbad];rfl
  rw[hb,if_pos rfl] at hact
  have HAL:=zh hact
  clear hact hbad hb hbd
  go_enter Tryz.func258,Tryz.ntmps258
  go_wp2_with(first
   |((go_at_call 296;(with_reducible refine(HI.out _).mono ?_);rintro e w1 ⟨rfl,E1⟩);have hT:=zh (Blk.ext hT.out E1);have hR:=zh (Blk.ext hR.out E1);have Ew:Ext w w1:=zX;have wz:∃wz,wz=w1:=⟨_,rfl⟩)
   |((go_at_call 297;(with_reducible refine(HS.out _).mono ?_);rintro e w2 ⟨rfl,E2⟩);have hT:=zh (Blk.ext hT.out E2);have hR:=zh (Blk.ext hR.out E2);have Ew:Ext w w2:=zX)
   |(refine wpList_build_eq rfl 232 _ rfl (L:=cz) (by simp[go_sem];exact hbz) ?_)
   |(refine wpList_store_A rfl 232 _ _ rfl (w.heap.size+1) _ rfl rfl 232 _ hR.out hiz HZ.out h1z.out ?_;intro w4 H4 E4;have E4:Ext w w4:=E4 w.heap.size w Ew (by omega)))
  refine bodyPost_ret_by (Go.Kb.Zab Tryz.results258 _ _ (w.heap.size+1) 232 _ _ _ rfl _ rfl H4 Tryz.underlying232 rfl hiz) rfl ?_
  exact⟨by rw[HAL.out,HCZ.out];rfl,E4⟩
 ·obtain⟨hs1,hs2⟩:=hbd rfl
  cases su
  ·by_cases h0:how<0
   ·have hb:bad=true:=by rw[hbad];simp[h0]
    rw[hb,if_pos rfl] at hact
    have HAL:=zh hact
    clear hact hbad hb hbd
    go_enter Tryz.func258,Tryz.ntmps258
    go_wp2_with(first
     |((go_at_call 296;(with_reducible refine(HI.out _).mono ?_);rintro e w1 ⟨rfl,E1⟩);have hT:=zh (Blk.ext hT.out E1);have hR:=zh (Blk.ext hR.out E1);have Ew:Ext w w1:=zX;have wz:∃wz,wz=w1:=⟨_,rfl⟩)
     |((go_at_call 297;(with_reducible refine(HS.out _).mono ?_);rintro e w2 ⟨rfl,E2⟩);have hT:=zh (Blk.ext hT.out E2);have hR:=zh (Blk.ext hR.out E2);have Ew:Ext w w2:=zX)
     |(refine wpList_build_eq rfl 232 _ rfl (L:=cz) (by simp[go_sem];exact hbz) ?_)
     |(refine wpList_store_A rfl 232 _ _ rfl (w.heap.size+1) _ rfl rfl 232 _ hR.out hiz HZ.out h1z.out ?_;intro w4 H4 E4;have E4:Ext w w4:=E4 w.heap.size w Ew (by omega)))
    refine bodyPost_ret_by (Go.Kb.Zab Tryz.results258 _ _ (w.heap.size+1) 232 _ _ _ rfl _ rfl H4 Tryz.underlying232 rfl hiz) rfl ?_
    exact⟨by rw[HAL.out,HCZ.out];rfl,E4⟩
   ·by_cases h2:2<how
    ·have hb:bad=true:=by rw[hbad];simp[h2]
     rw[hb,if_pos rfl] at hact
     have HAL:=zh hact
     clear hact hbad hb hbd
     go_enter Tryz.func258,Tryz.ntmps258
     go_wp2_with(first
      |((go_at_call 296;(with_reducible refine(HI.out _).mono ?_);rintro e w1 ⟨rfl,E1⟩);have hT:=zh (Blk.ext hT.out E1);have hR:=zh (Blk.ext hR.out E1);have Ew:Ext w w1:=zX;have wz:∃wz,wz=w1:=⟨_,rfl⟩)
      |((go_at_call 297;(with_reducible refine(HS.out _).mono ?_);rintro e w2 ⟨rfl,E2⟩);have hT:=zh (Blk.ext hT.out E2);have hR:=zh (Blk.ext hR.out E2);have Ew:Ext w w2:=zX)
      |(refine wpList_build_eq rfl 232 _ rfl (L:=cz) (by simp[go_sem];exact hbz) ?_)
      |(refine wpList_store_A rfl 232 _ _ rfl (w.heap.size+1) _ rfl rfl 232 _ hR.out hiz HZ.out h1z.out ?_;intro w4 H4 E4;have E4:Ext w w4:=E4 w.heap.size w Ew (by omega)))
     refine bodyPost_ret_by (Go.Kb.Zab Tryz.results258 _ _ (w.heap.size+1) 232 _ _ _ rfl _ rfl H4 Tryz.underlying232 rfl hiz) rfl ?_
     exact⟨by rw[HAL.out,HCZ.out];rfl,E4⟩
    ·have hb:bad=false:=by rw[hbad];simp[h0];omega
     rw[hb,if_neg (by decide)] at hact
     obtain⟨k,rfl⟩:=Int.eq_ofNat_of_zero_le (show 0≤sig by omega)
     simp only[Int.toNat_natCast] at HST HC2 hact
     have hks:k<cs.size:=by omega
     have k1:(k:Int)<32:=by omega
     have k2:(0:Int)≤(k:Int):=by omega
     have HAL:=zh hact
     clear hact hbad hb hbd
     go_enter Tryz.func258,Tryz.ntmps258
     go_wp2_with fail
     (with_reducible refine(HI.out _).mono ?_);rintro e w1 ⟨rfl,E1⟩
     go_wp2_with fail
     (with_reducible refine(HS.out _).mono ?_);rintro e w2 ⟨rfl,E2⟩
     have hT:=zh (Blk.ext hT.out (show Ext _ w2 from Ext.trans E1 E2))
     have hR:=zh (Blk.ext hR.out (show Ext _ w2 from Ext.trans E1 E2))
     have Ew2:Ext w w2:=zX
     clear E1 E2
     go_wp2_with(first
      |(refine Zan rfl 3 _ _ rfl w.heap.size k rfl _ rfl rfl rfl 232 _ hT.out hks (by kernel_rfl) ?_;intro w3 H3 F3 E3;have H3:=zh (show Blk w3 w.heap.size 232 cs2 from by have h:=H3;rw[←HST.out];exact h);have hR3:=zh (F3 _ _ _ (by omega) hR.out);have E3:Ext w w3:=E3 w.heap.size w Ew2 (Nat.le_refl _);clear F3)
      |(refine wpList_load_row rfl 232 _ rfl _ rfl 232 _ _ _ H3.out Tryz.underlying232 rfl hi2 ?_)
      |(refine wpList_store_A rfl 232 _ _ rfl (w.heap.size+1) _ rfl rfl 232 _ hR3.out hi2 HZ2.out h1s.out ?_;intro w4 H4 E4;have E4:Ext w w4:=E4 w.heap.size w E3 (by omega)))
     refine bodyPost_ret_by (Go.Kb.Zab Tryz.results258 _ _ (w.heap.size+1) 232 _ _ _ rfl _ rfl H4 Tryz.underlying232 rfl hi2) rfl ?_
     exact⟨by rw[HAL.out,HC2.out];rfl,E4⟩
  ·have hb:bad=true:=by rw[hbad];simp
   rw[hb,if_pos rfl] at hact
   have HAL:=zh hact
   clear hact hbad hb hbd
   go_enter Tryz.func258,Tryz.ntmps258
   go_wp2_with(first
    |((go_at_call 296;(with_reducible refine(HI.out _).mono ?_);rintro e w1 ⟨rfl,E1⟩);have hT:=zh (Blk.ext hT.out E1);have hR:=zh (Blk.ext hR.out E1);have Ew:Ext w w1:=zX;have wz:∃wz,wz=w1:=⟨_,rfl⟩)
    |((go_at_call 297;(with_reducible refine(HS.out _).mono ?_);rintro e w2 ⟨rfl,E2⟩);have hT:=zh (Blk.ext hT.out E2);have hR:=zh (Blk.ext hR.out E2);have Ew:Ext w w2:=zX)
    |(refine wpList_build_eq rfl 232 _ rfl (L:=cz) (by simp[go_sem];exact hbz) ?_)
    |(refine wpList_store_A rfl 232 _ _ rfl (w.heap.size+1) _ rfl rfl 232 _ hR.out hiz HZ.out h1z.out ?_;intro w4 H4 E4;have E4:Ext w w4:=E4 w.heap.size w Ew (by omega)))
   refine bodyPost_ret_by (Go.Kb.Zab Tryz.results258 _ _ (w.heap.size+1) 232 _ _ _ rfl _ rfl H4 Tryz.underlying232 rfl hiz) rfl ?_
   exact⟨by rw[HAL.out,HCZ.out];rfl,E4⟩
end Go.Proofs.YtmmhcllibpmfnaaGreatDoor.Sg
namespace Go.Proofs.YtmmhcllibpmfnaaGreatDoor.Md
open Go.RowKit Go.Kb
structure Tm where
 c:List Int
 f:Int
 i:Int
 o:Int
 m:Int
 t:Int
deriving DecidableEq
def Tm.cells (t:Tm):List Value:=t.c.map (.int .u8)++ [.int .u64 t.f,.int .u32 t.i,.int .u32 t.o,.int .i64 t.m,.int .i64 t.t]
def Tm.arr (t:Tm):Array Value:=t.cells.toArray
structure Tm.Ok (t:Tm):Prop where
 c:t.c.length=19
 b:∀x∈t.c,0≤x∧x≤255
 f:0≤t.f∧t.f<18446744073709551616
 i:0≤t.i∧t.i<4294967296
 o:0≤t.o∧t.o<4294967296
 m: -9223372036854775808≤t.m∧t.m≤9223372036854775807
 t: -9223372036854775808≤t.t∧t.t≤9223372036854775807
theorem Tm.len {t:Tm}(h:t.Ok):t.cells.length=24:=by simp[Tm.cells,h.c]
theorem Tm.size {t:Tm}(h:t.Ok):t.arr.size=24:=by simp[Tm.arr,Tm.len h]
theorem Tm.at_ {t:Tm}(h:t.Ok){k:Nat}(hk:k<19):t.arr[k]?=some (.int .u8 (t.c.getD k 0)):=by
 have hc:=h.c
 have h1:t.c[k]?=some (t.c.getD k 0):=by rw[List.getD_eq_getElem?_getD,List.getElem?_eq_getElem (by omega)];simp
 simp only[Tm.arr,Tm.cells,List.getElem?_toArray]
 rw[List.getElem?_append_left (by simp;omega),List.getElem?_map,h1]
 rfl
theorem Tm.at19 {t:Tm}(h:t.Ok):t.arr[19]?=some (.int .u64 t.f):=by
 have hc:=h.c
 simp only[Tm.arr,Tm.cells,List.getElem?_toArray]
 rw[List.getElem?_append_right (by simp;omega)]
 simp[hc]
theorem Zsw {cs:Array Value}(h:cs.size=24): #[cs[0]'(by omega),cs[1]'(by omega),cs[2]'(by omega),cs[3]'(by omega),cs[4]'(by omega),cs[5]'(by omega),cs[6]'(by omega),cs[7]'(by omega),cs[8]'(by omega),cs[9]'(by omega),cs[10]'(by omega),cs[11]'(by omega),cs[12]'(by omega),cs[13]'(by omega),cs[14]'(by omega),cs[15]'(by omega),cs[16]'(by omega),cs[17]'(by omega),cs[18]'(by omega),cs[19]'(by omega),cs[20]'(by omega),cs[21]'(by omega),cs[22]'(by omega),cs[23]'(by omega)]=cs:=by
 apply Array.ext
 ·simp[h]
 ·intro i h1 h2
  have:i<24:=by omega
  rcases i with _|_|_|_|_|_|_|_|_|_|_|_|_|_|_|_|_|_|_|_|_|_|_|_|i
  all_goals first|rfl|omega
def ZaL (op:Int):Bool:=decide (30≤op∧op≤42∨50≤op∧op≤62∨70≤op∧op≤75∨90≤op∧op≤93)
def pw (op:Int):Int:=2 ^ (op - 30).toNat
theorem Zb6 {op:Int}(h:30≤op∧op≤93):1≤pw op∧pw op≤9223372036854775808:=by
 unfold pw
 have h1:2 ^ (op - 30).toNat≤2 ^ 63:=Nat.pow_le_pow_right (by decide) (by omega)
 have h2:0<2 ^ (op - 30).toNat:=Nat.two_pow_pos _
 have h3:(2:Int) ^ (op - 30).toNat=((2 ^ (op - 30).toNat:Nat):Int):=by simp
 rw[h3]
 omega
theorem Ze2 (w:World):Calls Tryz.prog 370 #[] w fun e w'=>e= .returned (.agg #[.int .i64 30,.int .i64 42,.int .i64 50,.int .i64 62,.int .i64 70,.int .i64 75,.int .i64 90,.int .i64 93])∧Ext w w':=by
 go_enter Tryz.func370,Tryz.ntmps370
 go_wp2
 refine bodyPost_ret (v:=.agg #[.int .i64 30,.int .i64 42,.int .i64 50,.int .i64 62,.int .i64 70,.int .i64 75,.int .i64 90,.int .i64 93]) (by simp[results,Tryz.results370,go_sem]) rfl ?_
 exact⟨rfl,zX⟩
theorem Zcj (op:Int)(w:World)(h:30≤op∧op≤93):Calls Tryz.prog 334 #[.int .i64 op] w fun e w'=>e= .returned (.int .u64 (pw op))∧Ext w w':=by
 obtain⟨h1,h2⟩:=h
 have h3:IntKind.i64.wrap (op - 30)=op - 30:=IntWalk.i64_in _ (by omega)
 have h4:min (op - 30).toNat 64=(op - 30).toNat:=by omega
 have h5:IntKind.u64.wrap (2 ^ (op - 30).toNat)=pw op:=by
  have:=Zb6 ⟨h1,h2⟩
  unfold pw at*
  simp only[IntKind.wrap,IntKind.bits,IntKind.signed]
  simp
  omega
 go_enter Tryz.func334,Tryz.ntmps334
 go_wp2
 go_ret
 exact⟨by simp,zX⟩
theorem ZpT {op:Int}(h:30≤op):pw (op+1)=2*pw op:=by
 unfold pw
 rw[show(op+1 - 30).toNat=(op - 30).toNat+1 by omega,Int.pow_succ,Int.mul_comm]
theorem ZcU (op:Int)(w:World):Calls Tryz.prog 333 #[.int .i64 op] w fun e w'=>e= .returned (.bool (ZaL op))∧Ext w w':=by
 have i0:∀w,(Instr.index 445 (.agg #[.int .i64 30,.int .i64 42,.int .i64 50,.int .i64 62,.int .i64 70,.int .i64 75,.int .i64 90,.int .i64 93]) (.int .i64 0)).run Tryz.prog w= .ok (.agg #[.int .i64 30,.int .i64 42]) w:=fun _=>by kernel_rfl
 have i1:∀w,(Instr.index 445 (.agg #[.int .i64 30,.int .i64 42,.int .i64 50,.int .i64 62,.int .i64 70,.int .i64 75,.int .i64 90,.int .i64 93]) (.int .i64 1)).run Tryz.prog w= .ok (.agg #[.int .i64 50,.int .i64 62]) w:=fun _=>by kernel_rfl
 have i2:∀w,(Instr.index 445 (.agg #[.int .i64 30,.int .i64 42,.int .i64 50,.int .i64 62,.int .i64 70,.int .i64 75,.int .i64 90,.int .i64 93]) (.int .i64 2)).run Tryz.prog w= .ok (.agg #[.int .i64 70,.int .i64 75]) w:=fun _=>by kernel_rfl
 have i3:∀w,(Instr.index 445 (.agg #[.int .i64 30,.int .i64 42,.int .i64 50,.int .i64 62,.int .i64 70,.int .i64 75,.int .i64 90,.int .i64 93]) (.int .i64 3)).run Tryz.prog w= .ok (.agg #[.int .i64 90,.int .i64 93]) w:=fun _=>by kernel_rfl
 go_enter Tryz.func333,Tryz.ntmps333
 go_wp2_with((go_at_call 370;refine(Ze2 _).mono ?_;rintro e w1 ⟨rfl,E1⟩))
 go_loopw [4,6] (fun _ i wr=>∃k:Int,0≤k∧k≤4∧i= .int .i64 k∧(0<k→¬(30≤op∧op≤42))∧(1<k→¬(50≤op∧op≤62))∧(2<k→¬(70≤op∧op≤75))∧(3<k→¬(90≤op∧op≤93))∧Ext w wr) (fun _ i _=>(4 - intOf i).toNat)
 case atStart=>exact⟨0,by omega,by omega,rfl,by omega,by omega,by omega,by omega,E1⟩
 case round=>
  obtain⟨k,hk0,hk,rfl,g0,g1,g2,g3,hE⟩:=hrel
  have hk':k=0∨k=1∨k=2∨k=3∨k=4:=by omega
  rcases hk' with rfl|rfl|rfl|rfl|rfl
  all_goals go_wp2
  all_goals first
   |(go_ret
     refine⟨?_,zX⟩
     show Ending.returned (Value.bool _)=_
     congr 2
     rw[Bool.eq_iff_iff]
     simp[ZaL]
     omega)
   |(go_roundw
     case rel=>exact⟨_,by omega,by omega,rfl,by omega,by omega,by omega,by omega,zX⟩
     case measure=>simp[intOf])
theorem ZcS:∀ (n x y:Nat),x<2 ^ n→(x|||y)+(x&&&y)=x+y:=by
 intro n
 induction n with
 |zero=>intro x y h;obtain rfl:x=0:=by omega
        simp
 |succ n ih=>
  intro x y h
  have h1:=ih (x/ 2) (y/ 2) (by rw[Nat.pow_succ] at h;omega)
  have h2:=Nat.or_div_two (a:=x) (b:=y)
  have h3:=Nat.and_div_two (a:=x) (b:=y)
  have h4:=Nat.or_mod_two_eq_one (a:=x) (b:=y)
  have h5:=Nat.and_mod_two_eq_one (a:=x) (b:=y)
  omega
theorem Zb0:∀ (n x y:Nat),x<2 ^ n→y<2 ^ n→(x&&& (2 ^ n - 1 - y))+(x&&&y)=x:=by
 intro n
 induction n with
 |zero=>intro x y h h2;obtain rfl:x=0:=by omega
        simp
 |succ n ih=>
  intro x y h hy
  rw[Nat.pow_succ] at*
  have h1:=ih (x/ 2) (y/ 2) (by omega) (by omega)
  have h0:(2 ^ n*2 - 1 - y)/ 2=2 ^ n - 1 - y/ 2:=by omega
  have h2:=Nat.and_div_two (a:=x) (b:=2 ^ n*2 - 1 - y)
  have h3:=Nat.and_div_two (a:=x) (b:=y)
  have h4:=Nat.and_mod_two_eq_one (a:=x) (b:=2 ^ n*2 - 1 - y)
  have h5:=Nat.and_mod_two_eq_one (a:=x) (b:=y)
  rw[h0] at h2
  omega
def onL (f op:Int):Bool:=decide (f/ pw op % 2=1)
theorem ZkN {op:Int}:pw op=((2 ^ (op - 30).toNat:Nat):Int):=by simp[pw]
theorem Zgq {f op:Int}(hf:0≤f∧f<18446744073709551616)(ho:30≤op∧op≤93):bits .and .u64 f (pw op)=if onL f op then pw op else 0:=by
 have h:=Zb6 ho
 rw[u64_and f (pw op) hf.1 hf.2 (by omega) (by omega)]
 obtain⟨X,rfl⟩:=Int.eq_ofNat_of_zero_le hf.1
 unfold onL
 rw[ZkN,Int.toNat_natCast,Int.toNat_natCast,nat_bit]
 generalize hP:2 ^ (op - 30).toNat=P
 have e:((X:Int)/ (P:Int) % 2)=((X/ P % 2:Nat):Int):=by simp
 rw[e]
 have h2:X/ P % 2=0∨X/ P % 2=1:=by omega
 rcases h2 with h2|h2<;>simp[h2]
theorem Zjp {f op:Int}(hf:0≤f∧f<18446744073709551616)(ho:30≤op∧op≤93):bits .or .u64 f (pw op)=if onL f op then f else f+pw op:=by
 have h:=Zb6 ho
 have ha:=Zgq hf ho
 rw[u64_and f (pw op) hf.1 hf.2 (by omega) (by omega)] at ha
 rw[u64_or f (pw op) hf.1 hf.2 (by omega) (by omega)]
 have h1:=ZcS 64 f.toNat (pw op).toNat (by omega)
 by_cases hx:onL f op=true
 ·rw[if_pos hx] at ha⊢;omega
 ·rw[if_neg hx] at ha⊢;omega
theorem Zbn {f op:Int}(hf:0≤f∧f<18446744073709551616)(ho:30≤op∧op≤93):bits .andNot .u64 f (pw op)=if onL f op then f - pw op else f:=by
 have h:=Zb6 ho
 have ha:=Zgq hf ho
 rw[u64_and f (pw op) hf.1 hf.2 (by omega) (by omega)] at ha
 rw[u64_andNot f (pw op) hf.1 hf.2 (by omega) (by omega)]
 have h1:=Zb0 64 f.toNat (pw op).toNat (by omega) (by omega)
 have h2:(2:Nat) ^ 64 - 1=18446744073709551615:=by decide
 rw[h2] at h1
 by_cases hx:onL f op=true
 ·rw[if_pos hx] at ha⊢;omega
 ·rw[if_neg hx] at ha⊢;omega
def hasL (t:Tm)(op:Int):Bool:=ZaL op&&onL t.f op
theorem ZbM {op:Int}(h:ZaL op=true):30≤op∧op≤93:=by
 simp[ZaL] at h;omega
theorem Zah {B g:Nat}{a w:World}(h:Below B a w)(hp:B≤g)(cs:Array Value):Below B a (w.setRow g cs):=
 h.trans ⟨rfl,rfl,rfl,by simp,fun k hk=>setRow_other w g k cs (by omega)⟩
theorem Blk.setRow {w:World}{g:Nat}{t:TypeId}{cs:Array Value}(h:Blk w g t cs)(cs':Array Value):Blk (w.setRow g cs') g t cs':=setRow_heap w g cs cs' t (0,0) h
theorem Tm.one (t:Tm):t.arr.all (·.oneCell')=true:=by
 simp only[Tm.arr,Tm.cells,List.all_toArray,List.all_append,List.all_map,Bool.and_eq_true]
 refine⟨?_,rfl⟩
 rw[List.all_eq_true]
 intro x _
 rfl
def ZbD (f op:Int)(on:Bool):Int:=if on then(if onL f op then f else f+pw op) else if onL f op then f - pw op else f
def setL (t:Tm)(op:Int)(on:Bool):Tm:=if ZaL op then {t with f:=ZbD t.f op on} else t
theorem Tm.set19 {t:Tm}(h:t.Ok)(f:Int):t.arr.setIfInBounds 19 (.int .u64 f)=({t with f:=f}:Tm).arr:=by
 obtain⟨c,f0,i,o,m,tt⟩:=t
 have hc:c.length=19:=h.c
 simp only[Tm.arr,Tm.cells]
 apply Array.ext'
 simp[hc]
theorem ZcT {f op:Int}(on:Bool)(hf:0≤f∧f<18446744073709551616)(ho:30≤op∧op≤93):0≤ZbD f op on∧ZbD f op on<18446744073709551616:=by
 have h:=Zb6 ho
 have h1:=Zjp hf ho
 have h2:=Zbn hf ho
 have w1:0≤bits .or .u64 f (pw op)∧bits .or .u64 f (pw op)<18446744073709551616:=by
  have:bits .or .u64 f (pw op)=IntKind.u64.wrap (bits .or .u64 f (pw op)):=by
   rw[u64_or f (pw op) hf.1 hf.2 (by omega) (by omega),IntKind.wrap_u64]
   have:=Nat.or_lt_two_pow (x:=f.toNat) (y:=(pw op).toNat) (n:=64) (by omega) (by omega)
   omega
  rw[this,IntKind.wrap_u64]
  omega
 have w2:0≤bits .andNot .u64 f (pw op)∧bits .andNot .u64 f (pw op)<18446744073709551616:=by
  rw[u64_andNot f (pw op) hf.1 hf.2 (by omega) (by omega)]
  have:=Nat.and_le_left (n:=f.toNat) (m:=18446744073709551615 - (pw op).toNat)
  omega
 unfold ZbD
 cases on
 ·rw[←h2] at*
  simpa using w2
 ·rw[←h1] at*
  simpa using w1
theorem ZcV {t:Tm}(h:t.Ok)(op:Int)(on:Bool):(setL t op on).Ok:=by
 unfold setL
 by_cases hf:ZaL op=true
 ·rw[if_pos hf]
  exact⟨h.c,h.b,ZcT on h.f (ZbM hf),h.i,h.o,h.m,h.t⟩
 ·rw[if_neg hf];exact h
theorem Zfy (t:Tm)(op:Int)(on:Bool)(w:World)(h:t.Ok):Calls Tryz.prog 298 #[.agg t.arr,.int .i64 op,.bool on] w fun e w'=>e= .returned (.agg (setL t op on).arr)∧Ext w w':=by
 have hn:=t.size h
 have hat:=Tm.at19 h
 have hf:=h.f
 have h1:=t.one
 have hset:∀f,t.arr.setIfInBounds 19 (.int .u64 f)=({t with f:=f}:Tm).arr:=Tm.set19 h
 by_cases hg:ZaL op=true
 ·have hO:=ZbM hg
  have hs:(setL t op on).arr=({t with f:=ZbD t.f op on}:Tm).arr:=by unfold setL;rw[if_pos hg]
  have h1':=(setL t op on).one
  have hn':=Tm.size (ZcV h op on)
  have hor:=Zjp hf hO
  have han:=Zbn hf hO
  rw[hs] at h1' hn'⊢
  have hi:(Tryz.prog.info? 39).map (·.size)=some ({t with f:=ZbD t.f op on}:Tm).arr.size:=by rw[hn'];kernel_rfl
  cases on
  ·have hv:bits .andNot .u64 t.f (pw op)=ZbD t.f op false:=by rw[han];rfl
   have hST:t.arr.setIfInBounds 19 (.int .u64 (bits .andNot .u64 t.f (pw op)))=({t with f:=ZbD t.f op false}:Tm).arr:=by rw[hset,hv]
   generalize ({t with f:=ZbD t.f op false}:Tm).arr=ct at*
   generalize t.arr=cs at*
   generalize t.f=f at*
   have hZ:=zh hn'.symm
   clear h hs h1 hor han hv hset
   go_enter Tryz.func298,Tryz.ntmps298
   (go_wp2_with fail;refine(ZcU op _).mono ?_;rintro e w1 ⟨rfl,E1⟩)
   rw[hg]
   have hA:=((Blk.new w 39 cs).alloc _).ext E1
   have hB:=(Blk.at_ (w:=w.alloc (.cells cs 39)) (B:=w.heap.size+1) 39 _ (by simp)).ext E1
   have hc0:∀w',Ext w1 w'→w'.cell? ⟨w.heap.size,19,none⟩=some (.int .u64 f)∧w'.frozen? ⟨w.heap.size,19,none⟩=false:=fun w' hE=>⟨by rw[(hA.ext hE).cell,hat],(hA.ext hE).frozen _⟩
   have hl1:=hc0 w1.drew zX
   obtain⟨hl1,hl1f⟩:=hl1
   have Ew:Ext w w1:=zX
   go_wp2_with fail
   go_region_law (go_simp;first
    |((go_at_call 334;(with_reducible refine(Zcj op _ hO).mono ?_);rintro e w2 ⟨rfl,E2⟩);have E12:Ext w1 w2:=zX;obtain⟨hl2,hl2f⟩:=hc0 w2 E12))
   all_goals have Ew2:=Ew.trans E12
   all_goals clear hl1 hl1f hl2 hl2f hc0
   all_goals have hB:=(hB.ext E12).far (p:=⟨w.heap.size,19,none⟩) (by simp) (.int .u64 (bits .andNot .u64 f (pw op)))
   all_goals have hA:=(hA.ext E12).set_ 19 (.int .u64 (bits .andNot .u64 f (pw op)))
   all_goals rw[hST] at hA
   all_goals clear E1 E2
   all_goals
    go_wp2_with(first
     |(refine wpList_load_row rfl 39 _ rfl _ rfl 39 _ _ _ hA Tryz.underlying39 rfl hi ?_)
     |(refine wpList_store_row rfl 39 _ _ rfl _ _ rfl rfl 39 _ hB hi hZ.out h1' ?_))
    refine bodyPost_ret_by (results_cell_row Tryz.results298 _ _ (w.heap.size+1) 39 _ _ _ rfl (Blk.setRow hB _) Tryz.underlying39 rfl hi) rfl ?_
    exact⟨rfl,Zah (Below.setCell Ew2 (by simp) _) (by omega) _⟩
  ·have hv:bits .or .u64 t.f (pw op)=ZbD t.f op true:=by rw[hor];rfl
   have hST:t.arr.setIfInBounds 19 (.int .u64 (bits .or .u64 t.f (pw op)))=({t with f:=ZbD t.f op true}:Tm).arr:=by rw[hset,hv]
   generalize ({t with f:=ZbD t.f op true}:Tm).arr=ct at*
   generalize t.arr=cs at*
   generalize t.f=f at*
   have hZ:=zh hn'.symm
   clear h hs h1 hor han hv hset
   go_enter Tryz.func298,Tryz.ntmps298
   (go_wp2_with fail;refine(ZcU op _).mono ?_;rintro e w1 ⟨rfl,E1⟩)
   rw[hg]
   have hA:=((Blk.new w 39 cs).alloc _).ext E1
   have hB:=(Blk.at_ (w:=w.alloc (.cells cs 39)) (B:=w.heap.size+1) 39 _ (by simp)).ext E1
   have hc0:∀w',Ext w1 w'→w'.cell? ⟨w.heap.size,19,none⟩=some (.int .u64 f)∧w'.frozen? ⟨w.heap.size,19,none⟩=false:=fun w' hE=>⟨by rw[(hA.ext hE).cell,hat],(hA.ext hE).frozen _⟩
   have hl1:=hc0 w1.drew zX
   obtain⟨hl1,hl1f⟩:=hl1
   have Ew:Ext w w1:=zX
   go_wp2_with fail
   go_region_law (go_simp;first
    |((go_at_call 334;(with_reducible refine(Zcj op _ hO).mono ?_);rintro e w2 ⟨rfl,E2⟩);have E12:Ext w1 w2:=zX;obtain⟨hl2,hl2f⟩:=hc0 w2 E12))
   all_goals have Ew2:=Ew.trans E12
   all_goals clear hl1 hl1f hl2 hl2f hc0
   all_goals have hB:=(hB.ext E12).far (p:=⟨w.heap.size,19,none⟩) (by simp) (.int .u64 (bits .or .u64 f (pw op)))
   all_goals have hA:=(hA.ext E12).set_ 19 (.int .u64 (bits .or .u64 f (pw op)))
   all_goals rw[hST] at hA
   all_goals clear E1 E2
   all_goals
    go_wp2_with(first
     |(refine wpList_load_row rfl 39 _ rfl _ rfl 39 _ _ _ hA Tryz.underlying39 rfl hi ?_)
     |(refine wpList_store_row rfl 39 _ _ rfl _ _ rfl rfl 39 _ hB hi hZ.out h1' ?_))
    refine bodyPost_ret_by (results_cell_row Tryz.results298 _ _ (w.heap.size+1) 39 _ _ _ rfl (Blk.setRow hB _) Tryz.underlying39 rfl hi) rfl ?_
    exact⟨rfl,Zah (Below.setCell Ew2 (by simp) _) (by omega) _⟩
 ·have hg':ZaL op=false:=by simpa using hg
  have hs:(setL t op on).arr=t.arr:=by unfold setL;rw[if_neg hg]
  rw[hs]
  generalize t.arr=cs at*
  have hi:(Tryz.prog.info? 39).map (·.size)=some cs.size:=by rw[hn];kernel_rfl
  clear h hat hset hs
  go_enter Tryz.func298,Tryz.ntmps298
  (go_wp2_with fail;refine(ZcU op _).mono ?_;rintro e w1 ⟨rfl,E1⟩)
  rw[hg']
  have hA:=((Blk.new w 39 cs).alloc _).ext E1
  have hB:=(Blk.at_ (w:=w.alloc (.cells cs 39)) (B:=w.heap.size+1) 39 _ (by simp)).ext E1
  go_wp2_with(first
   |(refine wpList_load_row rfl 39 _ rfl _ rfl 39 _ _ _ hA Tryz.underlying39 rfl hi ?_)
   |(refine wpList_store_row rfl 39 _ _ rfl _ _ rfl rfl 39 _ hB hi (by rw[hn];rfl) h1 ?_))
  refine bodyPost_ret_by (results_cell_row Tryz.results298 _ _ (w.heap.size+1) 39 _ _ _ rfl (Blk.setRow hB _) Tryz.underlying39 rfl hi) rfl ?_
  exact⟨rfl,Zah zX (by omega) _⟩
set_option linter.unusedSimpArgs false
theorem Zne:Tryz.prog.eqGuardType Tryz.prog.depth 39=false:=by kernel_rfl
def Tm.lits (t:Tm):List Lit:=t.c.map (Lit.int .u8)++ [Lit.int .u64 t.f,Lit.int .u32 t.i,Lit.int .u32 t.o,Lit.int .i64 t.m,Lit.int .i64 t.t]
theorem ZaW {x:Int}(h:0≤x∧x≤255)(d:Nat):Tryz.prog.keyLits (d+1) 5 [.int .u8 x]=some [Lit.int .u8 x]:=by
 have hw:(Lit.int .u8 x).wf=true:=by simpa [Lit.wf,IntKind.min,IntKind.max,IntKind.signed,IntKind.bits] using h
 simp[Program.keyLits,Tryz.underlying5,hw]
theorem Zjq {c:List Int}(hl:c.length=19)(hb:∀x∈c,0≤x∧x≤255)(d:Nat):Tryz.prog.keyLits (d+2) 36 (c.map (.int .u8))=some (c.map (Lit.int .u8)):=by
 have c1:Tryz.prog.cellsOf 5=1:=by kernel_rfl
 have c19:Tryz.prog.cellsOf 36=19:=by kernel_rfl
 obtain⟨x0,x1,x2,x3,x4,x5,x6,x7,x8,x9,x10,x11,x12,x13,x14,x15,x16,x17,x18,rfl⟩:∃x0 x1 x2 x3 x4 x5 x6 x7 x8 x9 x10 x11 x12 x13 x14 x15 x16 x17 x18,c=[x0,x1,x2,x3,x4,x5,x6,x7,x8,x9,x10,x11,x12,x13,x14,x15,x16,x17,x18]:=by
  match c,hl with
  | [x0,x1,x2,x3,x4,x5,x6,x7,x8,x9,x10,x11,x12,x13,x14,x15,x16,x17,x18],_=>exact⟨x0,x1,x2,x3,x4,x5,x6,x7,x8,x9,x10,x11,x12,x13,x14,x15,x16,x17,x18,rfl⟩
 simp only[List.mem_cons,List.not_mem_nil,or_false,forall_eq_or_imp,forall_eq] at hb
 obtain⟨h0,h1,h2,h3,h4,h5,h6,h7,h8,h9,h10,h11,h12,h13,h14,h15,h16,h17,h18⟩:=hb
 unfold Program.keyLits
 simp[Tryz.underlying36,c1,c19,List.range,List.range.loop,ZaW h0,ZaW h1,ZaW h2,ZaW h3,ZaW h4,ZaW h5,ZaW h6,ZaW h7,ZaW h8,ZaW h9,ZaW h10,ZaW h11,ZaW h12,ZaW h13,ZaW h14,ZaW h15,ZaW h16,ZaW h17,ZaW h18]
theorem ZkP {t:Tm}(h:t.Ok)(d:Nat):Tryz.prog.keyLits (d+3) 39 t.cells=some t.lits:=by
 have hc:=Zjq h.c h.b d
 have hl:=h.c
 have cT:Tryz.prog.cellsOf 39=24:=by kernel_rfl
 have cA:Tryz.prog.cellsOf 36=19:=by kernel_rfl
 have c1:Tryz.prog.cellsOf 37=1:=by kernel_rfl
 have c2:Tryz.prog.cellsOf 33=1:=by kernel_rfl
 have c3:Tryz.prog.cellsOf 3=1:=by kernel_rfl
 have w1:(Lit.int .u64 t.f).wf=true:=by have:=h.f;simp[Lit.wf,IntKind.min,IntKind.max,IntKind.signed,IntKind.bits];omega
 have w2:(Lit.int .u32 t.i).wf=true:=by have:=h.i;simp[Lit.wf,IntKind.min,IntKind.max,IntKind.signed,IntKind.bits];omega
 have w3:(Lit.int .u32 t.o).wf=true:=by have:=h.o;simp[Lit.wf,IntKind.min,IntKind.max,IntKind.signed,IntKind.bits];omega
 have w4:(Lit.int .i64 t.m).wf=true:=by have:=h.m;simp[Lit.wf,IntKind.min,IntKind.max,IntKind.signed,IntKind.bits];omega
 have w5:(Lit.int .i64 t.t).wf=true:=by have:=h.t;simp[Lit.wf,IntKind.min,IntKind.max,IntKind.signed,IntKind.bits];omega
 have l1:Tryz.prog.keyLits (d+2) 37 [.int .u64 t.f]=some [Lit.int .u64 t.f]:=by simp[Program.keyLits,Tryz.underlying37,w1]
 have l2:Tryz.prog.keyLits (d+2) 33 [.int .u32 t.i]=some [Lit.int .u32 t.i]:=by simp[Program.keyLits,Tryz.underlying33,w2]
 have l3:Tryz.prog.keyLits (d+2) 33 [.int .u32 t.o]=some [Lit.int .u32 t.o]:=by simp[Program.keyLits,Tryz.underlying33,w3]
 have l4:Tryz.prog.keyLits (d+2) 3 [.int .i64 t.m]=some [Lit.int .i64 t.m]:=by simp[Program.keyLits,Tryz.underlying3,w4]
 have l5:Tryz.prog.keyLits (d+2) 3 [.int .i64 t.t]=some [Lit.int .i64 t.t]:=by simp[Program.keyLits,Tryz.underlying3,w5]
 have hlen:t.cells.length=24:=Tm.len h
 have e0:t.cells.take 19=t.c.map (.int .u8):=by unfold Tm.cells;rw[List.take_left' (by simp[hl])]
 have e1:∀k,t.cells.drop (19+k)=[Value.int .u64 t.f,.int .u32 t.i,.int .u32 t.o,.int .i64 t.m,.int .i64 t.t].drop k:=fun k=>by
  unfold Tm.cells
  rw[←List.drop_drop,List.drop_left' (by simp[hl])]
 have f0:=e1 0
 have f1:=e1 1
 have f2:=e1 2
 have f3:=e1 3
 have f4:=e1 4
 simp only[Nat.reduceAdd,List.drop_zero,List.drop_succ_cons,List.drop] at f0 f1 f2 f3 f4
 unfold Program.keyLits
 simp[Tryz.underlying39,cT,cA,c1,c2,c3,hlen,e0,f0,f1,f2,f3,f4,hc,l1,l2,l3,l4,l5,Tm.lits]
theorem Tm.lits_inj {t u:Tm}(h:t.Ok)(hu:u.Ok):t.lits=u.lits↔t=u:=by
 constructor
 ·intro e
  have h1:=h.c
  have h2:=hu.c
  unfold Tm.lits at e
  obtain⟨ea,eb⟩:=List.append_inj e (by simp[h1,h2])
  have ec:t.c=u.c:=(List.map_inj_right (fun a b hab=>by cases hab;rfl)).1 ea
  simp only[List.cons.injEq,Lit.int.injEq,true_and,and_true] at eb
  obtain⟨e1,e2,e3,e4,e5⟩:=eb
  cases t
  cases u
  simp_all
 ·rintro rfl;rfl
theorem Zri {t u:Tm}(h:t.Ok)(hu:u.Ok)(w:World):(Op.equalIn 10000 39 (.agg t.arr) (.agg u.arr)).run Tryz.prog w= .ok (decide (t=u)) w:=by
 have hk:Tryz.prog.keyTypeAt 3 39=true:=by kernel_rfl
 have c24:Tryz.prog.cellsOf 39=24:=by kernel_rfl
 have hf:∀ {t:Tm},t.Ok→(Value.agg t.arr).formed Tryz.prog 39=true:=fun {t} h=>by
  simp[Value.formed,Tryz.underlying39,Tm.size h,c24]
 obtain⟨r,hr,hiff⟩:=run_equalIn_deep (P:=Tryz.prog) 9997 3 39 hk w 3 3 (.agg t.arr) (.agg u.arr) t.lits u.lits (hf h) (hf hu) (ZkP h 0) (ZkP hu 0)
 rw[Tm.lits_inj h hu] at hiff
 rw[hr]
 congr 1
 rw[Bool.eq_iff_iff,decide_eq_true_eq]
 exact hiff
set_option linter.unusedSimpArgs false
theorem Zck {P:Program}{ops:Array Oper}{S:World→Prop}{op:Oper}{a:Act}(hw:Region.wanted op (yielded ops a.tmps)=true)(t:TypeId)(x y:Operand)(ho:op.op= .binOp .neq t x y t)
 (cx cy:Array Value) (hx:a.eval x= .agg cx) (hy:a.eval y= .agg cy) (r b:Bool) (hb:b=!r) (hm:P.eqGuardType P.depth t=false)
 (hr:∀w,(Op.equalIn 10000 t (.agg cx) (.agg cy)).run P w= .ok r w):YieldsIf P ops S op (.bool b) a:=
 .inl ⟨hw,fun w _=>by
  subst hb
  unfold execOp
  simp only[ho,hx,hy,Sem.run_bind,Sem.run_pure,Result.andThen_ok,run_eqGuard_agg w .neq t x y cx cy hm,run_neq_struct,hr w]⟩
end Go.Proofs.YtmmhcllibpmfnaaGreatDoor.Md
namespace Go.Proofs.YtmmhcllibpmfnaaGreatDoor
open Go.RowKit Go.Kb
structure Po where
 (k a b:Int)
 tx:ByteArray
abbrev opA (o:Po):Array Value:=#[.int .i64 o.k,.int .i64 o.a,.int .i64 o.b,.string o.tx]
abbrev plA (a n:Int):Array Value:=#[.int .i64 a,.int .i64 n]
def Zsx (w:World)(e:Ending)(w':World):Prop:=∃q:Bool,e= .returned (.bool q)∧Ext w w'
theorem Zaz (n lo hi:Int)(w:World):Calls Tryz.prog 26 #[.int .i64 n,.int .i64 lo,.int .i64 hi] w fun e w'=>e= .returned (.bool (decide (lo≤n∧n≤hi)))∧Ext w w':=by
 by_cases h1:lo≤n<;>by_cases h2:n≤hi<;>(go_enter Tryz.func26,Tryz.ntmps26;go_wp2;go_ret;exact⟨by simp[h1,h2],zX⟩)
def t0:Md.Tm:=⟨List.replicate 19 0,0,0,0,0,0⟩
theorem ZpU:t0.Ok:=⟨rfl,by decide,⟨by decide,by decide⟩,⟨by decide,by decide⟩,⟨by decide,by decide⟩,⟨by decide,by decide⟩,⟨by decide,by decide⟩⟩
theorem Zrj:t0.arr=#[.int .u8 0,.int .u8 0,.int .u8 0,.int .u8 0,.int .u8 0,.int .u8 0,.int .u8 0,.int .u8 0,.int .u8 0,.int .u8 0,.int .u8 0,.int .u8 0,.int .u8 0,.int .u8 0,.int .u8 0,.int .u8 0,.int .u8 0,.int .u8 0,.int .u8 0,.int .u64 0,.int .u32 0,.int .u32 0,.int .i64 0,.int .i64 0]:=rfl
theorem Znf:Tryz.prog.built 232 []=some (Sg.arrV Sg.zero32):=by kernel_rfl
abbrev srt (word:ByteArray)(sh:Int)(f:Nat):List Value:=[.string word,.int .i64 sh,.func (.func f) #[] #[]]
def ZaH:Array Value:=([Value.string ⟨#[]⟩,.int .i64 0,Value.nilFunc]++srt ⟨#[101,120,105,116]⟩ 1 187++
 srt ⟨#[111,117,116]⟩ 3 188++
 srt ⟨#[101,114,114]⟩ 3 188++
 srt ⟨#[105,110]⟩ 1 189++
 srt ⟨#[102,111,114,107]⟩ 1 190++
 srt ⟨#[101,120,101,99]⟩ 1 190++
 srt ⟨#[119,97,105,116]⟩ 1 191++
 srt ⟨#[107,105,108,108]⟩ 2 192++
 srt ⟨#[103,114,111,117,112]⟩ 1 193++
 srt ⟨#[115,101,115,115,105,111,110]⟩ 0 194++
 srt ⟨#[102,114,111,110,116]⟩ 1 195++
 srt ⟨#[97,99,116]⟩ 2 196++
 srt ⟨#[109,97,115,107]⟩ 2 197++
 srt ⟨#[115,108,101,101,112]⟩ 1 198++
 srt ⟨#[109,111,100,101]⟩ 2 199++
 srt ⟨#[99,111,112,121]⟩ 0 194).toArray
theorem Ze3 (w:World):Calls Tryz.prog 105 #[] w fun e w'=>e= .returned (.agg ZaH)∧Ext w w':=by
 have hi:=zi Tryz.prog 246 51
 go_enter Tryz.func105,Tryz.ntmps105
 go_wp2_with(refine wpList_store_A rfl 246 _ _ rfl w.heap.size _ rfl rfl 246 _ (show Blk _ _ _ _ from Blk.at_ _ _ (by simp)) hi rfl (by simp[Value.oneCell']) ?_;intro w2 HB E2;have E2:=E2 w.heap.size w zX (Nat.le_refl _))
 refine bodyPost_ret_by (results_cell_row Tryz.results105 _ _ w.heap.size 246 _ _ _ rfl HB Tryz.underlying246 rfl hi) rfl ?_
 exact⟨rfl,E2⟩
theorem ZpV (args:Array Value)(w:World):(callFunc 196 args).run Tryz.prog w= .ok (.enter 196 args) w:=by kernel_rfl
theorem ZkQ (args:Array Value)(w:World):(callFunc 194 args).run Tryz.prog w= .ok (.enter 194 args) w:=by kernel_rfl
theorem Zng (args:Array Value)(w:World):(callFunc 187 args).run Tryz.prog w= .ok (.enter 187 args) w:=by kernel_rfl
theorem ZkR (args:Array Value)(w:World):(callFunc 189 args).run Tryz.prog w= .ok (.enter 189 args) w:=by kernel_rfl
theorem Zjr (args:Array Value)(w:World):(callFunc 195 args).run Tryz.prog w= .ok (.enter 195 args) w:=by kernel_rfl
theorem ZkS (args:Array Value)(w:World):(callFunc 191 args).run Tryz.prog w= .ok (.enter 191 args) w:=by kernel_rfl
theorem Zgs (args:Array Value)(w:World):(callFunc 190 args).run Tryz.prog w= .ok (.enter 190 args) w:=by kernel_rfl
theorem Znh (args:Array Value)(w:World):(callFunc 197 args).run Tryz.prog w= .ok (.enter 197 args) w:=by kernel_rfl
theorem Zni (args:Array Value)(w:World):(callFunc 199 args).run Tryz.prog w= .ok (.enter 199 args) w:=by kernel_rfl
theorem Zgt (args:Array Value)(w:World):(callFunc 188 args).run Tryz.prog w= .ok (.enter 188 args) w:=by kernel_rfl
theorem Zjs (args:Array Value)(w:World):(callFunc 192 args).run Tryz.prog w= .ok (.enter 192 args) w:=by kernel_rfl
theorem Znj (args:Array Value)(w:World):(callFunc 198 args).run Tryz.prog w= .ok (.enter 198 args) w:=by kernel_rfl
theorem ZkT (args:Array Value)(w:World):(callFunc 193 args).run Tryz.prog w= .ok (.enter 193 args) w:=by kernel_rfl
theorem Zsy (w:World):(Instr.index 246 (.agg ZaH) (.int .i64 1)).run Tryz.prog w= .ok (.agg (srt ⟨#[101,120,105,116]⟩ 1 187).toArray) w:=by kernel_rfl
theorem Zsz (w:World):(Instr.index 246 (.agg ZaH) (.int .i64 2)).run Tryz.prog w= .ok (.agg (srt ⟨#[111,117,116]⟩ 3 188).toArray) w:=by kernel_rfl
theorem ZsA (w:World):(Instr.index 246 (.agg ZaH) (.int .i64 3)).run Tryz.prog w= .ok (.agg (srt ⟨#[101,114,114]⟩ 3 188).toArray) w:=by kernel_rfl
theorem ZsB (w:World):(Instr.index 246 (.agg ZaH) (.int .i64 4)).run Tryz.prog w= .ok (.agg (srt ⟨#[105,110]⟩ 1 189).toArray) w:=by kernel_rfl
theorem ZsC (w:World):(Instr.index 246 (.agg ZaH) (.int .i64 5)).run Tryz.prog w= .ok (.agg (srt ⟨#[102,111,114,107]⟩ 1 190).toArray) w:=by kernel_rfl
theorem ZsD (w:World):(Instr.index 246 (.agg ZaH) (.int .i64 6)).run Tryz.prog w= .ok (.agg (srt ⟨#[101,120,101,99]⟩ 1 190).toArray) w:=by kernel_rfl
theorem ZsE (w:World):(Instr.index 246 (.agg ZaH) (.int .i64 7)).run Tryz.prog w= .ok (.agg (srt ⟨#[119,97,105,116]⟩ 1 191).toArray) w:=by kernel_rfl
theorem ZsF (w:World):(Instr.index 246 (.agg ZaH) (.int .i64 8)).run Tryz.prog w= .ok (.agg (srt ⟨#[107,105,108,108]⟩ 2 192).toArray) w:=by kernel_rfl
theorem ZsG (w:World):(Instr.index 246 (.agg ZaH) (.int .i64 9)).run Tryz.prog w= .ok (.agg (srt ⟨#[103,114,111,117,112]⟩ 1 193).toArray) w:=by kernel_rfl
theorem Zrk (w:World):(Instr.index 246 (.agg ZaH) (.int .i64 10)).run Tryz.prog w= .ok (.agg (srt ⟨#[115,101,115,115,105,111,110]⟩ 0 194).toArray) w:=by kernel_rfl
theorem Zrl (w:World):(Instr.index 246 (.agg ZaH) (.int .i64 11)).run Tryz.prog w= .ok (.agg (srt ⟨#[102,114,111,110,116]⟩ 1 195).toArray) w:=by kernel_rfl
theorem Zrm (w:World):(Instr.index 246 (.agg ZaH) (.int .i64 12)).run Tryz.prog w= .ok (.agg (srt ⟨#[97,99,116]⟩ 2 196).toArray) w:=by kernel_rfl
theorem Zrn (w:World):(Instr.index 246 (.agg ZaH) (.int .i64 13)).run Tryz.prog w= .ok (.agg (srt ⟨#[109,97,115,107]⟩ 2 197).toArray) w:=by kernel_rfl
theorem Zro (w:World):(Instr.index 246 (.agg ZaH) (.int .i64 14)).run Tryz.prog w= .ok (.agg (srt ⟨#[115,108,101,101,112]⟩ 1 198).toArray) w:=by kernel_rfl
theorem Zrp (w:World):(Instr.index 246 (.agg ZaH) (.int .i64 15)).run Tryz.prog w= .ok (.agg (srt ⟨#[109,111,100,101]⟩ 2 199).toArray) w:=by kernel_rfl
theorem Zrq (w:World):(Instr.index 246 (.agg ZaH) (.int .i64 16)).run Tryz.prog w= .ok (.agg (srt ⟨#[99,111,112,121]⟩ 0 194).toArray) w:=by kernel_rfl
def OpR:Rep Po where
 size:=4
 pos:=by decide
 rel:=fun _ _ cs d=>cs=(opA d).toList
 len:=fun h=>by rw[h];rfl
 one:=fun h u hu=>by
  rw[h] at hu
  simp at hu
  rcases hu with rfl|rfl|rfl|rfl<;>rfl
 keep:=fun h _=>h
abbrev azB:ByteArray:=⟨#[97,98,99,100,101,102,103,104,105,106,107,108,109,110,111,112,113,114,115,116,117,118,119,120,121,122,48,49,50,51,52,53,54,55,56,57]⟩
structure NameOk (s:ByteArray):Prop where
 ne:1≤s.size
 le:s.size≤64
 ch:∀b∈s.data.toList,b∈azB.data.toList
theorem ZkU {p:UInt8→Bool}:∀ {l:List UInt8},l.dropWhile p=[]→∀x∈l,p x=true
 | [],_,x,hx=>by cases hx
 |y::l,h,x,hx=>by
  rw[List.dropWhile_cons] at h
  cases hy:p y with
  |false=>rw[hy] at h;simp at h
  |true=>
   rw[hy] at h
   simp only[if_true] at h
   rcases List.mem_cons.1 hx with rfl|hx
   ·exact hy
   ·exact ZkU h x hx
theorem Znk {l cs:List UInt8}(h:Go.Lib.trimS l cs=[]):∀b∈l,b∈cs:=by
 unfold Go.Lib.trimS Go.Lib.trimLeftS Go.Lib.trimRightS at h
 have h1:∀x∈(l.reverse.dropWhile (cs.contains ·)).reverse,cs.contains x=true:=ZkU h
 have h2:l.reverse.dropWhile (cs.contains ·)=[]:=by
  by_cases hne:l.reverse.dropWhile (cs.contains ·)=[]
  ·exact hne
  ·have h3:=List.head_dropWhile_not (cs.contains ·) hne
   have h4:=h1 ((l.reverse.dropWhile (cs.contains ·)).head hne) (by rw[List.mem_reverse];exact List.head_mem hne)
   rw[h4] at h3
   cases h3
 have h5:∀x∈l.reverse,cs.contains x=true:=ZkU h2
 intro b hb
 have h6:=h5 b (List.mem_reverse.2 hb)
 simpa using h6
theorem ZkV (args:Array Value)(w:World):(callFunc 58 args).run Tryz.prog w= .ok (.enter 58 args) w:=by kernel_rfl
def ZsH (k:Nat)(bs fs:Array Value)(w:World):Prop:=
 (∀args w',(callFunc k args).run Tryz.prog w'= .ok (.enter k args) w')∧∀ (o:Po) (w':World),Ext w w'→Calls Tryz.prog k (bs.push (.agg (opA o))++fs) w' (Zsx w')
theorem ZsH.ext {k:Nat}{bs fs:Array Value}{w w':World}(h:ZsH k bs fs w)(hE:Ext w w'):ZsH k bs fs w':=⟨h.1,fun o w2 h2=>h.2 o w2 (hE.trans h2)⟩
end Go.Proofs.YtmmhcllibpmfnaaGreatDoor
namespace Go.Proofs.YtmmhcllibpmfnaaGreatDoor
open Go.RowKit Go.Kb Go.Maps
instance decBytes:DecidableEq ByteArray:=fun a b=>
 if h:a.data=b.data then isTrue (by cases a;cases b;simp only at h;rw[h]) else isFalse (fun he=>h (by rw[he]))
structure KeyT (kt mt:TypeId)(α:Type) where
 val:α→Value
 lit:α→Lit
 ok:α→Prop
 keyed:Keyed Tryz.prog kt
 und:Tryz.prog.underlying mt=some (.map kt 4)
 key:∀x,ok x→keyOf Tryz.prog kt (val x)=some (lit x)
 isk:∀x,WideAt.IsKeyLit (lit x)
 inj:∀x y,lit x=lit y→x=y
section
variable {kt mt:TypeId} {α:Type} [DecidableEq α]
def Zeo (K:KeyT kt mt α)(M:Nat)(w:World)(S:List α):Prop:=
 ∃D:DataW Unit,w.ownsMap Tryz.prog kt (plainElem Tryz.prog 4) M S.length D∧(∀x,D.atKey (K.lit x) (.lit (.bool false))= .lit (.bool (decide (x∈S))))∧(∀x,Maps.has D (K.lit x)=decide (x∈S))∧Maps.size D=S.length
theorem ZkW {R:Value→Option (DataW Unit×List MemPlace)}{w w':World}{k:TypeId}{M n:Nat}{D:DataW Unit}(h:w.ownsMap Tryz.prog k R M n D)(he:w'.heap[M]?=w.heap[M]?):w'.ownsMap Tryz.prog k R M n D:=by
 obtain⟨es,cl,h1,h2,h3,h4⟩:=h
 exact⟨es,cl,he.trans h1,h2,h3,h4⟩
theorem ZkX {R:Value→Option (DataW Unit×List MemPlace)}{w:World}{k:TypeId}{M n:Nat}{D:DataW Unit}(h:w.ownsMap Tryz.prog k R M n D):w.ownsMap Tryz.prog k R M (Maps.size D) D:=by
 obtain⟨es,cl,h1,h2,h3,rfl⟩:=h
 refine⟨es,cl,h1,h2,?_,rfl⟩
 rw[Maps.size_eq,length_sorted]
 simp
theorem Zeo.lt {K:KeyT kt mt α}{M:Nat}{w:World}{S:List α}(h:Zeo K M w S):M<w.heap.size:=h.choose_spec.1.lt
theorem Zeo.ext {K:KeyT kt mt α}{M:Nat}{w w':World}{S:List α}(h:Zeo K M w S)(E:Ext w w'):Zeo K M w' S:=by
 obtain⟨D,h1,h2⟩:=h
 exact⟨D,ZkW h1 (E.block M h1.lt),h2⟩
theorem Zeo.mod {K:KeyT kt mt α}{M:Nat}{B:Nat→Prop}{w w':World}{S:List α}(h:Zeo K M w S)(m:Mod B w w')(hS:¬B M):Zeo K M w' S:=by
 obtain⟨D,h1,h2⟩:=h
 exact⟨D,ZkW h1 (m.block M h1.lt hS),h2⟩
theorem Zeo.made (K:KeyT kt mt α)(w:World):Zeo K w.heap.size (w.alloc (.map #[] 0)) []:=
 ⟨.map [],World.ownsMap_made w Tryz.prog kt (plainElem Tryz.prog 4),fun _=>rfl,fun _=>rfl,rfl⟩
theorem Zeo.cells {K:KeyT kt mt α}{M:Nat}{w:World}{S:List α}(h:Zeo K M w S){cs:Array Value}{t:TypeId}{fr:Nat×Nat}:w.heap[M]?≠some (.cells cs t fr):=by
 obtain⟨D,⟨es,cl,h1,-⟩,-⟩:=h
 rw[h1]
 intro h9
 cases h9
variable {ops:Array Oper} {rest:List Oper} {o:Oper} {a:Act} {Q:Exit→Act→World→Prop} {w:World} {M:Nat} {S:List α}
theorem ZpW (w:World):(zeroValue 4).run Tryz.prog w= .ok (.bool false) w:=by kernel_rfl
theorem Zhh {v:Value}{x:Bool}{ps:List MemPlace}(h:plainElem (H:=Unit) Tryz.prog 4 v=some (.lit (.bool x),ps)):v= .bool x:=by
 unfold plainElem at h
 rw[Tryz.underlying4] at h
 cases v<;>simp at h
 rw[h.1]
theorem Zdt (K:KeyT kt mt α)(hg:o.guard=none)(m x:Operand)(hop:o.op=Op.lookup mt m x false)(hm:a.eval m= .map (some M))(h:Zeo K M w S)(id:α)(hx:a.eval x=K.val id)(hw:K.ok id)(b:Bool)(hb:id∈S↔b=true)
 (hK:wpList Tryz.prog ops Q rest (a.put o.dst (.bool b)) w):wpList Tryz.prog ops Q (o::rest) a w:=by
 obtain⟨D,h1,h2,h3,h4⟩:=h
 refine wpList_plain hg fun K' hK'=>?_
 obtain⟨v,ps,hrun,hv⟩:=h1.lookup K.keyed K.und (ZpW w) (zd:=.lit (.bool false)) (zp:=[]) (plainElem_bool Tryz.underlying4 false) (K.key id hw)
 rw[h2,show decide (id∈S)=b from by rw[Bool.eq_iff_iff,decide_eq_true_eq];exact hb] at hv
 have hv:=Zhh hv
 subst hv
 unfold Oper.wp
 simp[execOp,hop,hm,hx,hrun,Result.andThen]
 exact hK' _ _ hK
theorem Zhi (K:KeyT kt mt α)(hg:o.guard=none)(m x v:Operand)(hop:o.op=Op.mapUpdate mt m x v)(hm:a.eval m= .map (some M))(h:Zeo K M w S)(id:α)(hid:id∉S)(hx:a.eval x=K.val id)(hv:a.eval v= .bool true)(hw:K.ok id)(hl:S.length≤1000)
 (hK:∀w',Zeo K M w' (S++ [id])→Mod (fun k=>k=M) w w'→wpList Tryz.prog ops Q rest (a.put o.dst undef) w'):wpList Tryz.prog ops Q (o::rest) a w:=by
 obtain⟨D,h1,h2,h3,h4⟩:=h
 refine wpList_mapUpdate_own w hg m x v _ hop kt 4 K.keyed K.und (plainElem Tryz.prog 4) M _ D hm h1 (by unfold maxLen;omega) _ _ _ hx hv (K.key id hw) _ [] (plainElem_bool Tryz.underlying4 true) fun w' h5 h6=>?_
 have ht:=h1.tidy K.keyed
 have hs:Maps.size (D.put (K.lit id) (.lit (.bool true)))=(S++ [id]).length:=by
  rw[size_put ht,h3,h4]
  simp[hid]
 refine hK w' ⟨_,by rw[←hs];exact ZkX h5,fun k=>?_,fun k=>?_,hs⟩ ((Mod.refl _ w).grown h6 fun k hk=>.inr (by cases hk;rfl))
 ·by_cases hk:k=id
  ·subst hk
   rw[atKey_put_same ht.isMap (K.isk _)]
   simp
  ·rw[atKey_put_other (fun he=>hk (K.inj _ _ he)),h2 k]
   simp[hk]
 ·by_cases hk:k=id
  ·subst hk
   rw[has_put_same ht.isMap (K.isk _)]
   simp
  ·rw[has_put_other (fun he=>hk (K.inj _ _ he)),h3 k]
   simp[hk]
end
def ZpX:KeyT 9 105 ByteArray where
 val:=Value.string
 lit:=fun s=>.string s.data.toList
 ok:=fun s=>s.size≤maxLen
 keyed:=string_keyed Tryz.underlying9
 und:=Tryz.underlying105
 key:=fun _ h=>WideMaps.keyOf_string_mk Tryz.underlying9 h
 isk:=fun _=>trivial
 inj:=fun x y h=>by
  simp only[Lit.string.injEq] at h
  cases x
  cases y
  simp only[ByteArray.mk.injEq]
  exact Array.ext' h
def PqR:Rep (ByteArray×List Po) where
 size:=2
 pos:=by decide
 rel:=fun A w cs d=>∃v,cs=[.string d.1,v]∧RdS OpR A w v d.2
 len:=fun⟨v,h,_⟩=>by rw[h];rfl
 one:=fun⟨v,h,h2⟩ u hu=>by
  obtain⟨Ad,c,rfl,_⟩:=h2.shape
  rw[h] at hu
  simp at hu
  rcases hu with rfl|rfl<;>rfl
 keep:=fun⟨v,h,h2⟩ hk=>⟨v,h,h2.keep hk⟩
structure PgOk (l:List (ByteArray×List Po)):Prop where
 ne:1≤l.length
 le:l.length≤32
 nm:∀d∈l,NameOk d.1∧d.2.length≤64
end Go.Proofs.YtmmhcllibpmfnaaGreatDoor
namespace Go.Proofs.YtmmhcllibpmfnaaGreatDoor
open Go.RowKit Go.Kb
theorem ZkY:(Tryz.prog.info? 101).map (fun i=>(i.zero,i.size,i.bytes))=some (some (.agg #[.string ⟨#[]⟩,.slice none 0 0]),PgR.size,40):=by kernel_rfl
/- slices.Clone at one slice type: slices.Clone[[]parlour/program.Op,parlour/program.Op] (op), slice type []program.Op, element program.Op, rep OpR -/
theorem ZpY:(Tryz.prog.info? 108).map (fun i=>(i.zero,i.size,i.bytes))=some (some (.agg #[.int .i64 0,.int .i64 0,.int .i64 0,.string ⟨#[]⟩]),(OpR).size,40):=by kernel_rfl
theorem Zil {A:Nat→Prop}(v:Value)(ds:List _)(w:World)(h:RdY OpR A w v ds)(hn:ds.length*40≤140737488355328):
 Calls Tryz.prog 45 #[v] w fun e w'=>∃Ad c,e= .returned (.slice Ad ds.length c)∧OwnS OpR 108 w.heap.size (fun k=>A k∧k<w.heap.size) w' (.slice Ad ds.length c) ds∧Ext w w':=by
 obtain⟨us,⟨hl,Ad,c,rfl,hnc,hcm,hA⟩,he⟩:=id h
 have H:=zh h
 have HL:=zh hl
 clear h hl he
 have heq:=fun u=>Lib.run_eql_slice_nil (P:=Tryz.prog) u 99 _ Ad ds.length c 0 0 Tryz.underlying99
 rcases Ad with _|ad
 ·have h0:ds.length=0∧c=0:=by
   rcases hA with rfl|⟨b,off,h0,_⟩
   ·omega
   ·cases h0
  obtain⟨h1,rfl⟩:=h0
  obtain rfl:ds=[]:=List.eq_nil_of_length_eq_zero h1
  clear hA HL h1
  simp only[List.length_nil] at heq⊢
  go_enter Tryz.func45,Tryz.ntmps45
  go_wp2
  go_ret
  exact⟨_,_,rfl,OwnS.nil _ _ _ _ _,zX⟩
 ·clear hA
  go_enter Tryz.func45,Tryz.ntmps45
  go_wp2_with((at_builtin;refine wpList_app (e:=OpR) (base:=w.heap.size) (B:=fun k=>A k∧k<w.heap.size) (A:=fun k=>A k∧k<w.heap.size) rfl _ _ rfl Tryz.underlying99 ZpY rfl (OwnS.empty _ _ _ rfl (Nat.le_refl _)) rfl (RdY.alloc (RdY.lt H.out) _) rfl (fun k _ hk=>⟨hk,fun h=>by have:=hk.2;simp[Value.ownBlock] at h;omega⟩) (N:=ds.length) (by simp) (by simp[maxLen];omega) (by omega) (by simp) ?_;intro A1 c1 w1 hown hM hB;simp only[List.nil_append] at hown))
  go_ret
  exact⟨_,_,rfl,hown,zX⟩
abbrev Zrr (v:Value):Array Value:=ZeW v (.slice none 0 0) (.int .i64 1) (.slice none 0 0) (.slice none 0 0) (.int .i64 1)
abbrev Zsl (kb:Nat)(v:Value):Array Value:=ZbA v (.slice none 0 0) (.bool false) (.slice none 0 0) lm4 (.bool false) (.pointer (some ⟨kb,0,none⟩)) (.slice none 0 0) (.slice none 0 0) (.slice none 0 0)
end Go.Proofs.YtmmhcllibpmfnaaGreatDoor
namespace Go.Proofs.YtmmhcllibpmfnaaGreatDoor.Md
open Go.RowKit Go.Kb
theorem Zb1 (op:Int)(w:World):Calls Tryz.prog 135 #[.int .i64 op] w fun e w'=>e= .returned (.bool (ZaL op))∧Ext w w':=by
 go_enter Tryz.func135,Tryz.ntmps135
 go_wp2
 all_goals go_ret
 all_goals
  refine⟨?_,zX⟩
  show Ending.returned (Value.bool _)=_
  congr 2
  rw[Bool.eq_iff_iff]
  simp[ZaL]
  try omega
theorem Zfz (op:Int)(w:World)(h:30≤op∧op≤93):Calls Tryz.prog 137 #[.int .i64 op] w fun e w'=>e= .returned (.int .u64 (pw op))∧Ext w w':=by
 obtain⟨h1,h2⟩:=h
 go_enter Tryz.func137,Tryz.ntmps137
 go_wp2
 go_loopw [3,4] (fun n i wr=>∃k:Int,30≤k∧k≤op∧i= .int .i64 k∧n= .int .u64 (pw k)∧Ext w wr) (fun _ i _=>(op - intOf i).toNat)
 case atStart=>exact⟨30,by omega,by omega,rfl,rfl,zX⟩
 case round=>
  obtain⟨k,hk0,hk,rfl,rfl,hE⟩:=hrel
  have h3:IntKind.i64.wrap (k+1)=k+1:=IntWalk.i64_in _ (by omega)
  by_cases hlt:k<op
  ·have h4:=ZpT hk0
   have h5:=Zb6 (op:=k+1) (by omega)
   have h6:IntKind.u64.wrap (2*pw k)=pw (k+1):=by
    rw[←h4,IntKind.wrap_u64]
    omega
   clear h4 h5
   go_wp2
   go_roundw
   case rel=>exact⟨k+1,by omega,by omega,by simp,by simp,zX⟩
   case measure=>simp[intOf];omega
  ·obtain rfl:k=op:=by omega
   go_wp2
   go_ret
   exact⟨rfl,zX⟩
theorem Zou {f op:Int}(hf:0≤f∧f<18446744073709551616)(ho:30≤op∧op≤93):IntKind.u64.wrap (f.tdiv (pw op))=f/ pw op∧0≤f/ pw op∧(f/ pw op).tmod 2=f/ pw op % 2∧IntKind.u64.wrap (f/ pw op % 2)=f/ pw op % 2:=by
 have h:=Zb6 ho
 have h1:0≤f/ pw op:=Int.ediv_nonneg hf.1 (by omega)
 have h2:f/ pw op≤f:=Int.ediv_le_self _ hf.1
 have h3:f.tdiv (pw op)=f/ pw op:=Int.tdiv_eq_ediv_of_nonneg hf.1
 refine⟨?_,h1,Int.tmod_eq_emod_of_nonneg h1,?_⟩
 ·rw[h3,IntKind.wrap_u64];omega
 ·rw[IntKind.wrap_u64];omega
theorem Znl (t:Tm)(op:Int)(w:World)(h:t.Ok):Calls Tryz.prog 136 #[.agg t.arr,.int .i64 op] w fun e w'=>e= .returned (.bool (hasL t op))∧Ext w w':=by
 have hn:=t.size h
 have hat:=Tm.at19 h
 have hf:=h.f
 unfold hasL
 generalize t.arr=cs at hn hat⊢
 have hb:∀o,((w.alloc (.cells cs 39)).alloc o).cell? ⟨w.heap.size,19,none⟩=some (.int .u64 t.f):=fun o=>by rw[((Blk.new w 39 cs).alloc o).cell,hat]
 have hb0:(w.alloc (.cells cs 39)).cell? ⟨w.heap.size,19,none⟩=some (.int .u64 t.f):=by rw[(Blk.new w 39 cs).cell,hat]
 generalize t.f=f at*
 clear h hat
 by_cases hg:ZaL op=true
 ·have hO:=ZbM hg
  have hne:¬pw op=0:=by have:=Zb6 hO;omega
  have hd:=Zou hf hO
  rw[hg,Bool.true_and]
  go_enter Tryz.func136,Tryz.ntmps136
  go_wp2
  go_region_law (go_simp;first
   |((go_at_call 135;(with_reducible refine(Zb1 op _).mono ?_);rintro e w1 ⟨rfl,E1⟩);rw[hg];have hc1:=Bc E1;have hf1:=Bf E1;have hz1:=Below.size E1;(try simp at hz1);have hd1:=fun o=>hc1 w.heap.size o (by(try simp)<;>omega))
   |((go_at_call 137;(with_reducible refine(Zfz op _ hO).mono ?_);rintro e w2 ⟨rfl,E2⟩);have hc2:=Bc E2;have hf2:=Bf E2;have hz2:=Below.size E2;(try simp at hz2);have hd2:=fun o=>hc2 w.heap.size o (by(try simp)<;>omega)))
  all_goals go_wp2
  all_goals go_ret
  all_goals refine⟨?_,zX⟩
  all_goals show Ending.returned (Value.bool _)=_
  all_goals exact congrArg (fun b=>Ending.returned (Value.bool b)) (show(f/ pw op % 2==1)=decide (f/ pw op % 2=1) by rw[Bool.eq_iff_iff];simp)
 ·have hg':ZaL op=false:=by simpa using hg
  rw[hg',Bool.false_and]
  go_enter Tryz.func136,Tryz.ntmps136
  go_wp2
  first|go_region_law (go_simp;(go_at_call 135;(with_reducible refine(Zb1 op _).mono ?_);rintro e w1 ⟨rfl,E1⟩);rw[hg'];have hc1:=Bc E1;have hf1:=Bf E1;have hz1:=Below.size E1;(try simp at hz1);have hd1:=fun o=>hc1 w.heap.size o (by(try simp)<;>omega))|fail "region"
  all_goals go_wp2
  all_goals go_ret
  all_goals exact⟨rfl,zX⟩
def ops0:List Int:=[36,38,41,50,51,53,54,55,60,61,59,70,72,91]
def chars0:List Int:=[0,3,28,127,21,4,0,0,17,19,26,0,18,23,22,0,0,0,15]
def Zca:Tm:=⟨[0,3,28,127,21,4,255,255,17,19,26,255,18,23,22,255,255,255,15],ops0.foldl (fun f op=>ZbD f op true) 0,38400,38400,1,0⟩
def chr (k:Nat):List Int:=(List.range 19).map fun j=>if j<k∧1≤j∧chars0.getD j 0=0 then 255 else chars0.getD j 0
def flg (k:Nat):Int:=(ops0.take k).foldl (fun f op=>ZbD f op true) 0
theorem Zbb:Zca.Ok:=by
 refine⟨rfl,by decide+kernel,by decide+kernel,by decide,by decide,by decide,by decide⟩
theorem Zdu (k:Nat):(⟨chr k,0,38400,38400,1,0⟩:Tm).Ok:=by
 refine⟨by simp[chr],?_,⟨by simp,by simp⟩,⟨by simp,by simp⟩,⟨by simp,by simp⟩,⟨by simp,by simp⟩,⟨by simp,by simp⟩⟩
 intro x hx
 simp only[chr,List.mem_map,List.mem_range] at hx
 obtain⟨j,hj,rfl⟩:=hx
 have h2:∀j:Nat,j<19→0≤chars0.getD j 0∧chars0.getD j 0≤255:=by decide
 have:=h2 j hj
 show 0≤ite _ _ _∧ite _ _ _≤(255:Int)
 split<;>omega
theorem Zov:∀k,k≤14→0≤flg k∧flg k<18446744073709551616:=by decide+kernel
theorem Znm {k:Nat}(h:k<14):flg (k+1)=ZbD (flg k) (ops0.getD k 0) true:=by
 have:∀k:Nat,k<14→flg (k+1)=ZbD (flg k) (ops0.getD k 0) true:=by decide+kernel
 exact this k h
theorem ZpZ {k:Nat}(h:k<14):30≤ops0.getD k 0∧ops0.getD k 0≤93:=by
 have:∀k:Nat,k<14→30≤ops0.getD k 0∧ops0.getD k 0≤93:=by decide
 exact this k h
theorem Znn {k:Nat}(h:k<19)(h1:1≤k):chr (k+1)=if chars0.getD k 0=0 then(chr k).set k 255 else chr k:=by
 have:∀k:Nat,k<19→1≤k→chr (k+1)=if chars0.getD k 0=0 then(chr k).set k 255 else chr k:=by decide
 exact this k h h1
theorem Zrs {k:Nat}(h:k<19):(chr k).getD k 0=chars0.getD k 0:=by
 have:∀k:Nat,k<19→(chr k).getD k 0=chars0.getD k 0:=by decide
 exact this k h
theorem Tm.setc {t:Tm}(h:t.Ok){k:Nat}(hk:k<19)(x:Int):t.arr.setIfInBounds k (.int .u8 x)=({t with c:=t.c.set k x}:Tm).arr:=by
 obtain⟨c,f0,i,o,m,tt⟩:=t
 have hc:c.length=19:=h.c
 simp only[Tm.arr,Tm.cells]
 apply Array.ext'
 simp[hc,hk,List.map_set]
def putAll:Array Value→Nat→List Value→Array Value
 |cs,_,[]=>cs
 |cs,o,v::vs=>putAll (cs.setIfInBounds o v) (o+1) vs
theorem Blk.setCells {g:Nat}{t:TypeId}:∀ {vs:List Value} {w:World} {cs:Array Value} {o:Nat},Blk w g t cs→Blk (w.setCells g o vs) g t (putAll cs o vs)
 | [],_,_,_,h=>h
 |v::vs,_,_,o,h=>Blk.setCells (vs:=vs) (o:=o+1) (h.set_ o v)
theorem Zcb {B g:Nat}{a:World}(hp:B≤g):∀ {vs:List Value} {w:World} {o:Nat},Below B a w→Below B a (w.setCells g o vs)
 | [],_,_,h=>h
 |v::vs,_,o,h=>Zcb hp (vs:=vs) (o:=o+1) (h.setCell (p:=⟨g,o,none⟩) hp v)
theorem Blk.far_cells {g k:Nat}{t:TypeId}(hg:g≠k):∀ {vs:List Value} {w:World} {cs:Array Value} {o:Nat},Blk w g t cs→Blk (w.setCells k o vs) g t cs
 | [],_,_,_,h=>h
 |v::vs,_,_,o,h=>Blk.far_cells hg (vs:=vs) (o:=o+1) (h.far (p:=⟨k,o,none⟩) hg v)
theorem Blk.there {w:World}{g o n:Nat}{t:TypeId}{cs:Array Value}(h:Blk w g t cs)(hn:o+n≤cs.size):w.there g o n:=fun j hj=>⟨by
 rw[h.cell,Array.getElem?_eq_getElem (by omega)];rfl,h.frozen _⟩
theorem Blk.cast {w:World}{g:Nat}{t:TypeId}{cs cs':Array Value}(h:Blk w g t cs)(e:cs=cs'):Blk w g t cs':=e ▸ h
def zT:Tm:=⟨List.replicate 19 0,0,0,0,0,0⟩
def chT (k:Nat):Tm:=⟨chr k,0,38400,38400,1,0⟩
def fT (k:Nat):Tm:=⟨chr 19,flg k,38400,38400,1,0⟩
theorem Zrt {k:Nat}(h:k≤14):(fT k).Ok:=⟨(Zdu 19).c,(Zdu 19).b,Zov k h,(Zdu 19).i,(Zdu 19).o,(Zdu 19).m,(Zdu 19).t⟩
theorem Zgu (k:Nat)(hk:k<14)(w:World):(Instr.index 189 (.agg #[.int .i64 36,.int .i64 38,.int .i64 41,.int .i64 50,.int .i64 51,.int .i64 53,.int .i64 54,.int .i64 55,.int .i64 60,.int .i64 61,.int .i64 59,.int .i64 70,.int .i64 72,.int .i64 91]) (.int .i64 (k:Int))).run Tryz.prog w= .ok (.int .i64 (ops0.getD k 0)) w:=by
 rcases k with _|_|_|_|_|_|_|_|_|_|_|_|_|_|k
 all_goals first|omega|kernel_rfl
theorem Zhj (w:World):Calls Tryz.prog 356 #[] w fun e w'=>e= .returned (.agg Zca.arr)∧Ext w w':=by
 have hi:=zi Tryz.prog 39 24
 have hi2:=zi Tryz.prog 36 19
 go_enter Tryz.func356,Tryz.ntmps356
 go_wp2_with(first
  |(refine wpList_store_row rfl 39 _ _ rfl (w.heap.size+1) _ rfl rfl 39 _ (show Blk _ _ _ _ from Blk.at_ _ _ (by simp)) hi rfl (by simp[Value.oneCell']) ?_)
  |(refine wpList_store_mid rfl 36 _ _ rfl (w.heap.size+1) 0 _ rfl rfl (Blk.there (Blk.setRow (Blk.at_ _ _ (by simp)) _) (by simp)) hi2 (by simp[Value.oneCell']) ?_))
 go_loopw [2] (fun i wr=>∃k:Nat,1≤k∧k≤19∧i= .int .i64 k∧Blk wr w.heap.size 39 zT.arr∧Blk wr (w.heap.size+1) 39 (chT k).arr∧Ext w wr) (fun i _=>19 - (intOf i).toNat)
 case atStart=>
  refine⟨1,by omega,by omega,rfl,Blk.cast (Blk.far_cells (by simp) (Blk.cast ((setRow_other _ _ _ _ (by simp)).trans ((Blk.new w _ _).alloc _)) rfl)) rfl,Blk.cast (Blk.setCells (Blk.setRow (Blk.at_ _ _ (by simp)) _)) rfl,?_⟩
  exact Zcb (by simp) (Zah zX (by simp) _)
 case round=>
  obtain⟨k,hk1,hk,rfl,hz0,hz1,hE⟩:=hrel
  by_cases hlt:k<19
  ·have hc:=hz1.cell k
   rw[(chT k).at_ (Zdu k) hlt] at hc
   have hfr:=hz1.frozen k
   have e1:((chT k).c.getD k 0)=chars0.getD k 0:=Zrs hlt
   have e2:=Znn hlt hk1
   rw[e1] at hc
   have hwk:IntKind.i64.wrap ((k:Int)+1)=(k:Int)+1:=IntWalk.i64_in _ (by omega)
   by_cases hx:chars0.getD k 0=0
   ·have e3:(chT k).arr.setIfInBounds k (.int .u8 255)=(chT (k+1)).arr:=by
     rw[(chT k).setc (Zdu k) hlt]
     rw[if_pos hx] at e2
     show _=(⟨chr (k+1),0,38400,38400,1,0⟩:Tm).arr
     rw[e2];rfl
    have HN:=zh (Blk.cast (hz1.set_ k (.int .u8 255)) e3)
    have HZ:=zh (hz0.far (p:=⟨w.heap.size+1,k,none⟩) (by simp) (.int .u8 255))
    rw[hx] at hc
    clear hz0 hz1 e1 e2 e3 hx
    go_wp2
    go_roundw
    case rel=>exact⟨k+1,by omega,by omega,by go_num,HZ.out,HN.out,Below.setCell hE (by simp) _⟩
    case measure=>simp[intOf];omega
   ·have hx':(chars0.getD k 0==0)=false:=by simpa using hx
    have e3:(chT k).arr=(chT (k+1)).arr:=by
     rw[if_neg hx] at e2
     show(⟨chr k,0,38400,38400,1,0⟩:Tm).arr=(⟨chr (k+1),0,38400,38400,1,0⟩:Tm).arr
     rw[e2]
    have HN:=zh (Blk.cast hz1 e3)
    have HZ:=zh hz0
    generalize chars0.getD k 0=x at*
    clear hz0 hz1 e1 e2 e3 hx
    go_wp2
    go_roundw
    case rel=>exact⟨k+1,by omega,by omega,by go_num,HZ.out,HN.out,hE⟩
    case measure=>simp[intOf];omega
  ·obtain rfl:k=19:=by omega
   go_wp2
   go_loopw [4,21] (fun _ i wr=>∃k:Nat,k≤14∧i= .int .i64 k∧Blk wr w.heap.size 39 zT.arr∧Blk wr (w.heap.size+1) 39 (fT k).arr∧Ext w wr) (fun _ i _=>14 - (intOf i).toNat)
   case atStart=>exact⟨0,by omega,rfl,hz0,hz1,hE⟩
   case round=>
    clear hE hz0 hz1
    obtain⟨k,hk,rfl,hz0,hz1,hE⟩:=hrel
    by_cases hlt:k<14
    ·have hix:=Zgu k hlt
     have hO:=ZpZ hlt
     have hf:=Zov k hk
     have e2:=Znm hlt
     have hv:=Zjp hf hO
     have e3:(fT k).arr.setIfInBounds 19 (.int .u64 (bits .or .u64 (flg k) (pw (ops0.getD k 0))))=(fT (k+1)).arr:=by
      rw[Tm.set19 (Zrt hk),hv]
      show(⟨chr 19,_,38400,38400,1,0⟩:Tm).arr=(⟨chr 19,flg (k+1),38400,38400,1,0⟩:Tm).arr
      rw[e2];rfl
     have hat:(fT k).arr[19]?=some (.int .u64 (flg k)):=Tm.at19 (Zrt hk)
     have hc0:∀w',Ext wr w'→w'.cell? ⟨w.heap.size+1,19,none⟩=some (.int .u64 (flg k))∧w'.frozen? ⟨w.heap.size+1,19,none⟩=false:=fun w' hE=>⟨by rw[(hz1.ext hE).cell,hat],(hz1.ext hE).frozen _⟩
     generalize ops0.getD k 0=op at*
     generalize flg k=f at*
     have HV:=zh e3
     have HZ0:=zh hz0
     have HZ1:=zh hz1
     clear hz0 hz1 e2 e3 hv hat hf
     obtain⟨hl1,hl1f⟩:=hc0 wr.drew zX
     go_wp2
     go_region_law (go_simp;first
      |((go_at_call 334;(with_reducible refine(Zcj op _ hO).mono ?_);rintro e w2 ⟨rfl,E2⟩);have E12:Ext wr w2:=zX;obtain⟨hl2,hl2f⟩:=hc0 w2 E12))
     all_goals go_wp2
     all_goals
      go_roundw
      case rel=>
       first
        |(exact⟨_,_,_,_,_,_,_,_,_,_,_,⟨k+1,by omega,by go_num,(HZ0.out.ext E12).far (p:=⟨w.heap.size+1,19,none⟩) (by simp) _,Blk.cast ((HZ1.out.ext E12).set_ 19 _) HV.out,Below.setCell (hE.trans E12) (by simp) _⟩,rfl⟩)
        |fail "rel"
      case measure=>simp[intOf];omega
    ·obtain rfl:k=14:=by omega
     have hD:(fT 14).arr=Zca.arr:=by
      have:fT 14=Zca:=by decide+kernel
      rw[this]
     have hZ1:=zh (Blk.cast hz1 hD)
     have hZ0:=zh hz0
     have h1:=zh Zca.one
     have hn:=zh (Tm.size Zbb)
     have hn0:zT.arr.size=24:=rfl
     generalize hcs:Zca.arr=cs at*
     have HCS:=zh hcs
     clear hcs
     generalize zT.arr=zs at*
     have hi':(Tryz.prog.info? 39).map (·.size)=some cs.size:=by rw[hn.out];kernel_rfl
     have hN:=zh (hn0.trans hn.out.symm)
     clear hz0 hz1 hD
     go_wp2_with(first
      |(refine wpList_load_row rfl 39 _ rfl _ rfl 39 _ _ _ hZ1.out Tryz.underlying39 rfl hi' ?_)
      |(refine wpList_store_row rfl 39 _ _ rfl _ _ rfl rfl 39 _ hZ0.out hi' hN.out h1.out ?_))
     refine bodyPost_ret_by (results_cell_row Tryz.results356 _ _ w.heap.size 39 _ _ _ rfl (Blk.setRow hZ0.out _) Tryz.underlying39 rfl hi') rfl ?_
     exact⟨by rw[HCS.out],Zah hE (by omega) _⟩
theorem wpList_store_A {P:Program}{ops:Array Oper}{rest:List Oper}{o:Oper}{a:Act}{w:World}{Q:Exit→Act→World→Prop}(hgd:o.guard=none)(ty:TypeId)(x y:Operand)(ho:o.op= .store ty x y)
 (g:Nat) (cells:Array Value) (hx:a.eval x= .pointer (some ⟨g,0,none⟩)) (hy:a.eval y= .agg cells)
 (t:TypeId) (old:Array Value) (hg:Blk w g t old) (hi:(P.info? ty).map (·.size)=some cells.size)
 (hold:old.size=cells.size) (h1:cells.all (·.oneCell')=true)
 (h:∀w',Blk w' g t cells→(∀ (B:Nat) (a:World),Below B a w→B≤g→Below B a w')→wpList P ops Q rest (a.put o.dst undef) w'):wpList P ops Q (o::rest) a w:=
 wpList_store_row hgd ty x y ho g cells hx hy t old hg hi hold h1 (h _ (Blk.setRow hg _) fun _ _ hb hB=>Zah hb hB _)
theorem ZkZ {t:Tm}{op:Int}{on:Bool}(h:hasL t op=on):setL t op on=t:=by
 unfold setL
 by_cases hf:ZaL op=true
 ·rw[if_pos hf]
  unfold hasL at h
  rw[hf,Bool.true_and] at h
  have:ZbD t.f op on=t.f:=by
   unfold ZbD
   rw[h]
   cases on<;>simp
  rw[this]
 ·rw[if_neg hf]
theorem Zac {P:Program}{ops:Array Oper}{S:World→Prop}{op:Oper}{a:Act}(hw:Region.wanted op (yielded ops a.tmps)=true)(ty:TypeId)(x:Operand)(ho:op.op= .load ty x)
 (g:Nat) (hx:a.eval x= .pointer (some ⟨g,0,none⟩)) (t:TypeId) (cs:Array Value) (fr:Nat×Nat) (d:TypeDesc) (hg:∀w,S w→w.heap[g]?=some (.cells cs t fr))
 (hu:P.underlying ty=some d) (hd:(match d with| .struct _| .array _ _=>true|_=>false)=true) (hi:(P.info? ty).map (·.size)=some cs.size):YieldsIf P ops S op (.agg cs) a:=
 .inl ⟨hw,fun w hw'=>by
  unfold execOp
  simp only[ho,hx,Instr.loadAt,Instr.sureAddr,Sem.run_bind,Sem.run_pure,Result.andThen_ok,run_loadVar_row w g t ty cs fr d (hg w hw') hu hd hi]⟩
theorem Zae {P:Program}{ops:Array Oper}{S:World→Prop}{op:Oper}{a:Act}(hw:Region.wanted op (yielded ops a.tmps)=true)(t:TypeId)(parts:Array (Nat×Operand))(ho:op.op= .build t parts){L:Array Value}
 (hf:P.built t (parts.map fun(i,x)=>(i,a.eval x)).toList=some L):YieldsIf P ops S op (.agg L) a:=
 .inl ⟨hw,fun w _=>by
  unfold execOp
  simp only[ho,Sem.run_bind,run_build w t _ L hf,Result.andThen_ok]
  rfl⟩
theorem wpList_build_eq {P:Program}{ops:Array Oper}{rest:List Oper}{o:Oper}{a:Act}{w:World}{Q:Exit→Act→World→Prop}(hg:o.guard=none)(t:TypeId)(parts:Array (Nat×Operand))(ho:o.op= .build t parts){L:Array Value}
 (hf:P.built t (parts.map fun(i,x)=>(i,a.eval x)).toList=some L) (h:wpList P ops Q rest (a.put o.dst (.agg L)) w):wpList P ops Q (o::rest) a w:=by
 refine wpList_build hg t parts ho (by rw[hf];rfl) ?_
 rw[hf]
 exact h
def tmA (cs:Array Value)(xs:List Value):Array Value:=cs++xs.toArray
theorem ZfA (t:Tm)(op:Int)(on:Bool)(w:World)(h:t.Ok):Calls Tryz.prog 66 #[.agg t.arr,.int .i64 op,.bool on] w fun e w'=>e= .returned (.agg (setL t op on).arr)∧Ext w w':=by
 have hn:=t.size h
 have hat:=Tm.at19 h
 have hf:=h.f
 have h1:=zh t.one
 have hset:∀f,t.arr.setIfInBounds 19 (.int .u64 f)=({t with f:=f}:Tm).arr:=Tm.set19 h
 have hH:=fun w'=>Znl t op w' h
 by_cases hsame:ZaL op=false∨hasL t op=on
 ·have hs:setL t op on=t:=by
   rcases hsame with h|h
   ·unfold setL;rw[if_neg (by rw[h];simp)]
   ·exact ZkZ h
  rw[hs]
  generalize hasL t op=f at hH hsame
  generalize t.arr=cs at*
  have hi:(Tryz.prog.info? 39).map (·.size)=some cs.size:=by rw[hn];kernel_rfl
  clear h hat hset hs
  rcases Bool.eq_false_or_eq_true (ZaL op) with hg|hg
  ·have:f=on:=by
    rcases hsame with h|h
    ·rw[hg] at h;cases h
    ·exact h
   subst this
   clear hsame
   have hff:(f==f)=true:=by simp
   go_enter Tryz.func66,Tryz.ntmps66
   (go_wp2_with fail;refine(Zb1 op _).mono ?_;rintro e w1 ⟨rfl,E1⟩)
   rw[hg]
   have hA:=zh (((Blk.new w 39 cs).alloc _).ext E1)
   have hB:=zh ((Blk.at_ (w:=w.alloc (.cells cs 39)) (B:=w.heap.size+1) 39 _ (by simp)).ext E1)
   have Ew:Ext w w1:=zX
   clear E1
   go_wp2_with(first
    |(refine wpList_openG rfl rfl ?_;(refine wpList_load_row rfl 39 _ rfl _ rfl 39 _ _ _ hA.out Tryz.underlying39 rfl hi ?_))
    |((go_at_call 136;refine(hH _).mono ?_;rintro e w2 ⟨rfl,E2⟩);have hA2:=zh (hA.out.ext E2);have hB2:=zh (hB.out.ext E2))
    |(refine wpList_load_row rfl 39 _ rfl _ rfl 39 _ _ _ hA2.out Tryz.underlying39 rfl hi ?_)
    |(refine wpList_store_row rfl 39 _ _ rfl _ _ rfl rfl 39 _ hB2.out hi (by rw[hn];rfl) h1.out ?_))
   refine bodyPost_ret_by (results_cell_row Tryz.results66 _ _ (w.heap.size+1) 39 _ _ _ rfl (Blk.setRow hB2.out _) Tryz.underlying39 rfl hi) rfl ?_
   exact⟨rfl,Zah (Ew.trans E2) (by omega) _⟩
  ·clear hsame
   go_enter Tryz.func66,Tryz.ntmps66
   (go_wp2_with fail;refine(Zb1 op _).mono ?_;rintro e w1 ⟨rfl,E1⟩)
   rw[hg]
   have hA:=zh (((Blk.new w 39 cs).alloc _).ext E1)
   have hB:=zh ((Blk.at_ (w:=w.alloc (.cells cs 39)) (B:=w.heap.size+1) 39 _ (by simp)).ext E1)
   have Ew:Ext w w1:=zX
   clear E1
   go_wp2_with(first
    |(refine wpList_load_row rfl 39 _ rfl _ rfl 39 _ _ _ hA.out Tryz.underlying39 rfl hi ?_)
    |(refine wpList_store_row rfl 39 _ _ rfl _ _ rfl rfl 39 _ hB.out hi (by rw[hn];rfl) h1.out ?_))
   refine bodyPost_ret_by (results_cell_row Tryz.results66 _ _ (w.heap.size+1) 39 _ _ _ rfl (Blk.setRow hB.out _) Tryz.underlying39 rfl hi) rfl ?_
   exact⟨rfl,Zah Ew (by omega) _⟩
 ·have hg:ZaL op=true:=by
   rcases Bool.eq_false_or_eq_true (ZaL op) with hg|hg
   ·exact hg
   ·exact absurd (.inl hg) hsame
  have hne:hasL t op=!on:=by
   rcases Bool.eq_false_or_eq_true (hasL t op) with h|h<;>cases on<;>simp_all
  clear hsame
  have hO:=ZbM hg
  have hs:(setL t op on).arr=({t with f:=ZbD t.f op on}:Tm).arr:=by unfold setL;rw[if_pos hg]
  have h1':=zh (setL t op on).one
  have hn':=Tm.size (ZcV h op on)
  have hfb:=ZcT on hf hO
  have hpb:=Zb6 hO
  have hof:onL t.f op=!on:=by unfold hasL at hne;rwa [hg,Bool.true_and] at hne
  rw[hs] at h1' hn'⊢
  rw[hne] at hH
  have hi:(Tryz.prog.info? 39).map (·.size)=some ({t with f:=ZbD t.f op on}:Tm).arr.size:=by rw[hn'];kernel_rfl
  have hi0:(Tryz.prog.info? 39).map (·.size)=some t.arr.size:=by rw[hn];kernel_rfl
  have hZ:=zh hn'.symm
  cases on
  ·have hv:t.f - pw op=ZbD t.f op false:=by
    unfold ZbD;rw[hof];rfl
   have hwr:IntKind.u64.wrap (t.f - pw op)=t.f - pw op:=by rw[IntKind.wrap_u64];omega
   have hST:t.arr.setIfInBounds 19 (.int .u64 (t.f - pw op))=({t with f:=ZbD t.f op false}:Tm).arr:=by rw[hset,hv]
   have hST:=zh hST
   generalize ({t with f:=ZbD t.f op false}:Tm).arr=ct at*
   generalize t.arr=cs at*
   generalize t.f=f at*
   clear h hs hset hof hne hv hfb
   go_enter Tryz.func66,Tryz.ntmps66
   (go_wp2_with fail;refine(Zb1 op _).mono ?_;rintro e w1 ⟨rfl,E1⟩)
   rw[hg]
   have hA:=zh (((Blk.new w 39 cs).alloc _).ext E1)
   have hB:=zh ((Blk.at_ (w:=w.alloc (.cells cs 39)) (B:=w.heap.size+1) 39 _ (by simp)).ext E1)
   have Ew:Ext w w1:=zX
   clear E1
   go_wp2_with(first
    |(refine wpList_openG rfl rfl ?_;(refine wpList_load_row rfl 39 _ rfl _ rfl 39 _ _ _ hA.out Tryz.underlying39 rfl hi0 ?_))
    |((go_at_call 136;refine(hH _).mono ?_;rintro e w2 ⟨rfl,E2⟩);have hA2:=zh (hA.out.ext E2);have hB2:=zh (hB.out.ext E2);have Ew2:=Ew.trans E2))
   have hc0:∀w',Ext w2 w'→w'.cell? ⟨w.heap.size,19,none⟩=some (.int .u64 f)∧w'.frozen? ⟨w.heap.size,19,none⟩=false:=fun w' hE=>⟨by rw[(hA2.out.ext hE).cell,hat],(hA2.out.ext hE).frozen _⟩
   obtain⟨hl1,hl1f⟩:=hc0 w2.drew zX
   go_region_law (go_simp;first
    |((go_at_call 137;(with_reducible refine(Zfz op _ hO).mono ?_);rintro e w3 ⟨rfl,E3⟩);have E12:Ext w2 w3:=zX;obtain⟨hl2,hl2f⟩:=hc0 w3 E12))
   all_goals have Ew3:=Ew2.trans E12
   all_goals clear hl1 hl1f hl2 hl2f hc0
   all_goals have hB:=zh ((hB2.out.ext E12).far (p:=⟨w.heap.size,19,none⟩) (by simp) (.int .u64 (f - pw op)))
   all_goals have hA:=zh (Blk.cast ((hA2.out.ext E12).set_ 19 (.int .u64 (f - pw op))) hST.out)
   all_goals clear E2 E3
   all_goals
    go_wp2_with(first
     |(refine wpList_load_row rfl 39 _ rfl _ rfl 39 _ _ _ hA.out Tryz.underlying39 rfl hi ?_)
     |(refine wpList_store_row rfl 39 _ _ rfl _ _ rfl rfl 39 _ hB.out hi hZ.out h1'.out ?_))
    refine bodyPost_ret_by (results_cell_row Tryz.results66 _ _ (w.heap.size+1) 39 _ _ _ rfl (Blk.setRow hB.out _) Tryz.underlying39 rfl hi) rfl ?_
    exact⟨rfl,Zah (Below.setCell Ew3 (by simp) _) (by omega) _⟩
  ·have hv:t.f+pw op=ZbD t.f op true:=by
    unfold ZbD;rw[hof];rfl
   have hwr:IntKind.u64.wrap (t.f+pw op)=t.f+pw op:=by rw[IntKind.wrap_u64];omega
   have hST:t.arr.setIfInBounds 19 (.int .u64 (t.f+pw op))=({t with f:=ZbD t.f op true}:Tm).arr:=by rw[hset,hv]
   have hST:=zh hST
   generalize ({t with f:=ZbD t.f op true}:Tm).arr=ct at*
   generalize t.arr=cs at*
   generalize t.f=f at*
   clear h hs hset hof hne hv hfb
   go_enter Tryz.func66,Tryz.ntmps66
   (go_wp2_with fail;refine(Zb1 op _).mono ?_;rintro e w1 ⟨rfl,E1⟩)
   rw[hg]
   have hA:=zh (((Blk.new w 39 cs).alloc _).ext E1)
   have hB:=zh ((Blk.at_ (w:=w.alloc (.cells cs 39)) (B:=w.heap.size+1) 39 _ (by simp)).ext E1)
   have Ew:Ext w w1:=zX
   clear E1
   go_wp2_with(first
    |(refine wpList_openG rfl rfl ?_;(refine wpList_load_row rfl 39 _ rfl _ rfl 39 _ _ _ hA.out Tryz.underlying39 rfl hi0 ?_))
    |((go_at_call 136;refine(hH _).mono ?_;rintro e w2 ⟨rfl,E2⟩);have hA2:=zh (hA.out.ext E2);have hB2:=zh (hB.out.ext E2);have Ew2:=Ew.trans E2))
   have hc0:∀w',Ext w2 w'→w'.cell? ⟨w.heap.size,19,none⟩=some (.int .u64 f)∧w'.frozen? ⟨w.heap.size,19,none⟩=false:=fun w' hE=>⟨by rw[(hA2.out.ext hE).cell,hat],(hA2.out.ext hE).frozen _⟩
   obtain⟨hl1,hl1f⟩:=hc0 w2.drew zX
   go_region_law (go_simp;first
    |((go_at_call 137;(with_reducible refine(Zfz op _ hO).mono ?_);rintro e w3 ⟨rfl,E3⟩);have E12:Ext w2 w3:=zX;obtain⟨hl2,hl2f⟩:=hc0 w3 E12))
   all_goals have Ew3:=Ew2.trans E12
   all_goals clear hl1 hl1f hl2 hl2f hc0
   all_goals have hB:=zh ((hB2.out.ext E12).far (p:=⟨w.heap.size,19,none⟩) (by simp) (.int .u64 (f+pw op)))
   all_goals have hA:=zh (Blk.cast ((hA2.out.ext E12).set_ 19 (.int .u64 (f+pw op))) hST.out)
   all_goals clear E2 E3
   all_goals
    go_wp2_with(first
     |(refine wpList_load_row rfl 39 _ rfl _ rfl 39 _ _ _ hA.out Tryz.underlying39 rfl hi ?_)
     |(refine wpList_store_row rfl 39 _ _ rfl _ _ rfl rfl 39 _ hB.out hi hZ.out h1'.out ?_))
    refine bodyPost_ret_by (results_cell_row Tryz.results66 _ _ (w.heap.size+1) 39 _ _ _ rfl (Blk.setRow hB.out _) Tryz.underlying39 rfl hi) rfl ?_
    exact⟨rfl,Zah (Below.setCell Ew3 (by simp) _) (by omega) _⟩
end Go.Proofs.YtmmhcllibpmfnaaGreatDoor.Md
namespace Go.Proofs.YtmmhcllibpmfnaaGreatDoor
open Go.RowKit Go.Kb
structure Py where
 z1:Int
 z2:Int
 z3:Int
 z4:Int
 ses:Int
 grp:Int
 sl:Int
abbrev ptA (d:Nat)(y:Py):Array Value:=#[.pointer (some ⟨d,0,none⟩),.int .u32 y.z1,.int .u32 y.z2,.int .u32 y.z3,.int .u32 y.z4,.int .i64 y.ses,.int .i64 y.grp,.int .i64 y.sl,.bool false]
abbrev szA (z1 z2 z3 z4:Int):Array Value:=#[.int .u32 z1,.int .u32 z2,.int .u32 z3,.int .u32 z4]
theorem Zjt (cs:Array Value)(h:cs.size=24):Tryz.prog.built 418 [(0,.agg cs)]=some (Md.tmA cs [.slice none 0 0,.bool false,.slice none 0 0,.slice none 0 0,.bool false,.bool false,.slice none 0 0,.int .i64 0,.int .i64 0,.int .i64 0]):=by
 rw[←Md.Zsw h]
 kernel_rfl
theorem Zno (t:Md.Tm)(w:World)(ht:t.Ok):Calls Tryz.prog 368 #[.agg t.arr] w fun e w'=>∃g,e= .returned (.pointer (some ⟨g,0,none⟩))∧Ext w w':=by
 have hn:=Md.Tm.size ht
 obtain⟨L,hbi⟩:∃L,Tryz.prog.built 418 [(0,.agg t.arr)]=some L:=⟨_,Zjt t.arr hn⟩
 have hbi:=zh hbi
 clear ht
 obtain⟨cs,hcs⟩:=zm (t.arr)
 rw[hcs] at hbi hn⊢
 clear hcs
 have hi:(Tryz.prog.info? 39).map (·.size)=some cs.size:=by rw[hn];kernel_rfl
 have hT:=zh (Blk.new w 39 cs)
 go_enter Tryz.func368,Tryz.ntmps368
 go_wp2_with(first|(refine wpList_load_row rfl 39 _ rfl _ rfl 39 _ _ _ (Blk.ext hT.out zX) Tryz.underlying39 rfl hi ?_)|(refine Md.wpList_build_eq rfl 418 _ rfl (L:=L) ?_ ?_;·(simp[go_sem];exact hbi.out)))
 go_ret
 exact⟨_,rfl,zX⟩
theorem Zk0 (g:Nat)(z1 z2 z3 z4:Int):Tryz.prog.built 382 [(0,.pointer (some ⟨g,0,none⟩)),(1,.agg (szA z1 z2 z3 z4))]=some (ptA g ⟨z1,z2,z3,z4,0,0,0⟩):=by kernel_rfl
theorem Znp (t:Md.Tm)(z1 z2 z3 z4:Int)(w:World)(ht:t.Ok):Calls Tryz.prog 322 #[.agg t.arr,.agg (szA z1 z2 z3 z4)] w fun e w'=>
 ∃p d,e= .returned (.pointer (some ⟨p,0,none⟩))∧Blk w' p 382 (ptA d ⟨z1,z2,z3,z4,0,0,0⟩)∧w.heap.size≤p∧Ext w w':=by
 have hn:=Md.Tm.size ht
 have hN:=zh (fun w'=>Zno t w' ht)
 obtain⟨cs,hcs⟩:=zm (t.arr)
 rw[hcs] at hN hn⊢
 clear hcs ht
 have hi:(Tryz.prog.info? 39).map (·.size)=some cs.size:=by rw[hn];kernel_rfl
 obtain⟨W,hW⟩:=zn ((w.alloc (.cells cs 39)).alloc (.cells (szA z1 z2 z3 z4) 35))
 have hT2:=zh (show Blk W w.heap.size 39 cs by rw[hW];exact(Blk.new w _ _).alloc _)
 have b0:((w.alloc (.cells cs 39)).alloc (.cells (szA z1 z2 z3 z4) 35)).heap[w.heap.size+1]?=some (.cells (szA z1 z2 z3 z4) 35 (0,0)):=Blk.at_ _ _ (by simp)
 have B0:=zh (show Blk W (w.heap.size+1) 35 (szA z1 z2 z3 z4) by rw[hW];exact b0)
 have E0:Ext w W:=by rw[hW];exact((Ext.refl _).alloc _).alloc _
 have HW:=zh hW
 clear b0 hW
 go_enter Tryz.func322,Tryz.ntmps322
 go_upto_region 1 with fail
 rw[←HW.out]
 refine zg (fun w'=>Ext W w') (Ext.drew (Ext.refl _)) fun hHeld=>?_
 (refine zU 0 rfl (Zac (by rfl) 39 _ rfl _ rfl 39 cs _ _ (fun w' hw'=>Blk.ext hT2.out hw') Tryz.underlying39 rfl hi) ?_)
 (refine zU 2 rfl (Zac (by rfl) 35 _ rfl _ rfl 35 (szA z1 z2 z3 z4) _ _ (fun w' hSw=>B0.out.ext hSw) Tryz.underlying35 rfl (by kernel_rfl)) ?_)
 (refine zc 1 (hN.out _) ?_;rintro e w1 ⟨g,rfl,E1⟩ K hK;refine zo hK ((Ext.drew (Ext.refl _)).trans E1) fun hHeld=>?_;clear hK K)
 have EB:=zh hHeld
 have hb:=Zk0 g z1 z2 z3 z4
 (refine zU 3 (v:=.agg (ptA g ⟨z1,z2,z3,z4,0,0,0⟩)) rfl (Zae (by rfl) 382 _ rfl (by simp[go_sem];exact hb)) ?_)
 clear hb
 refine zw 4 fun K hK=>?_
 go_simp
 have EA:Ext w1 (w1.alloc (.cells (ptA g ⟨z1,z2,z3,z4,0,0,0⟩) 382)):=(Ext.refl _).alloc _
 have PA:=zh (Blk.new w1 382 (ptA g ⟨z1,z2,z3,z4,0,0,0⟩))
 refine zo hK (EB.out.trans EA) fun hHeld=>?_
 clear hK K
 have E02:=zh (E0.trans (EB.out.trans EA))
 have hz1:w.heap.size≤w1.heap.size:=(E0.trans EB.out).size
 clear EA E1
 refine zr 5 ?_
 refine zd ?_
 go_wp2
 go_ret
 exact⟨_,g,rfl,PA.out,hz1,E02.out⟩
theorem Znq (p d:Nat)(z1 z2 z3 z4 sl:Int)(x:Int)(w:World)(h:Blk w p 382 (ptA d ⟨z1,z2,z3,z4,0,0,sl⟩))(hx:1≤x):
 Calls Tryz.prog 366 #[.pointer (some ⟨p,0,none⟩),.int .i64 x,.int .i64 x] w fun e w'=>e= .returned (.int .i64 0)∧Blk w' p 382 (ptA d ⟨z1,z2,z3,z4,x,x,sl⟩)∧Mod (fun k=>k=p) w w':=by
 have HB:=zh h
 have k5:=h.cell 5
 have k6:=h.cell 6
 have f5:=h.frozen 5
 have f6:=h.frozen 6
 simp only[zG] at k5 k6
 have hx0:¬x≤0:=by omega
 clear h
 go_enter Tryz.func366,Tryz.ntmps366
 go_wp2
 go_ret
 exact⟨rfl,by simpa using(HB.out.set_ 5 (.int .i64 x)).set_ 6 (.int .i64 x),((Mod.refl _ _).set1 _).set1 _⟩
def Zl4:Rep (Int×Int) where
 size:=2
 pos:=by decide
 rel:=fun _ _ cs d=>cs=[.int .i64 d.1,.int .i64 d.2]
 len:=fun h=>by rw[h];rfl
 one:=fun h u hu=>by
  rw[h] at hu
  simp at hu
  rcases hu with rfl|rfl<;>rfl
 keep:=fun h _=>h
theorem Znr:(Tryz.prog.info? 392).map (fun i=>(i.zero,i.size,i.bytes))=some (some (.agg #[.int .i64 0,.int .i64 0]),Zl4.size,16):=by kernel_rfl
def ZbG (x:Int):Prop:=0≤x∧x≤4294967295
theorem Zns:Tryz.prog.eqGuardType Tryz.prog.depth 35=false:=by kernel_rfl
theorem Zk1 {z1 z2 z3 z4:Int}(h1:ZbG z1)(h2:ZbG z2)(h3:ZbG z3)(h4:ZbG z4):Tryz.prog.keyLits 2 35 [.int .u32 z1,.int .u32 z2,.int .u32 z3,.int .u32 z4]=some [Lit.int .u32 z1,Lit.int .u32 z2,Lit.int .u32 z3,Lit.int .u32 z4]:=by
 have cS:Tryz.prog.cellsOf 35=4:=by kernel_rfl
 have c1:Tryz.prog.cellsOf 33=1:=by kernel_rfl
 have hw:∀ {x:Int},ZbG x→(Lit.int .u32 x).wf=true:=fun {x} h=>by unfold ZbG at h;simp[Lit.wf,IntKind.min,IntKind.max,IntKind.signed,IntKind.bits];omega
 have hl:∀ {x:Int},ZbG x→Tryz.prog.keyLits 1 33 [.int .u32 x]=some [Lit.int .u32 x]:=fun h=>by simp[Program.keyLits,Tryz.underlying33,hw h]
 unfold Program.keyLits
 simp[Tryz.underlying35,cS,c1,hl h1,hl h2,hl h3,hl h4]
theorem Zru {z1 z2 z3 z4 y1 y2 y3 y4:Int}(h1:ZbG z1)(h2:ZbG z2)(h3:ZbG z3)(h4:ZbG z4)(g1:ZbG y1)(g2:ZbG y2)(g3:ZbG y3)(g4:ZbG y4)(w:World):
 (Op.equalIn 10000 35 (.agg (szA z1 z2 z3 z4)) (.agg (szA y1 y2 y3 y4))).run Tryz.prog w= .ok (decide (z1=y1∧z2=y2∧z3=y3∧z4=y4)) w:=by
 have hk:Tryz.prog.keyTypeAt 2 35=true:=by kernel_rfl
 have c4:Tryz.prog.cellsOf 35=4:=by kernel_rfl
 have hf:∀z1 z2 z3 z4:Int,(Value.agg (szA z1 z2 z3 z4)).formed Tryz.prog 35=true:=fun _ _ _ _=>by
  simp[Value.formed,Tryz.underlying35,c4]
 obtain⟨r,hr,hiff⟩:=run_equalIn_deep (P:=Tryz.prog) 9998 2 35 hk w 2 2 (.agg (szA z1 z2 z3 z4)) (.agg (szA y1 y2 y3 y4)) _ _ (hf _ _ _ _) (hf _ _ _ _) (Zk1 h1 h2 h3 h4) (Zk1 g1 g2 g3 g4)
 rw[hr]
 congr 1
 rw[Bool.eq_iff_iff,decide_eq_true_eq,hiff]
 simp
theorem Zp0 {A B:Nat→Prop}{w:World}{v:Value}{l:List (Int×Int)}(h:RdY Zl4 A w v l):RdY Zl4 B w v l:=by
 obtain⟨us,hr,he,h2⟩:=h
 exact⟨us,hr,he,h2⟩
theorem ZfB {P:Program}{ops:Array Oper}{S:World→Prop}{op:Oper}{a:Act}(hw:Region.wanted op (yielded ops a.tmps)=true)(t:TypeId)(x y:Operand)(ho:op.op= .binOp .eql t x y t)
 (cx cy:Array Value) (hx:a.eval x= .agg cx) (hy:a.eval y= .agg cy) (r:Bool) (hm:P.eqGuardType P.depth t=false)
 (hr:∀w,(Op.equalIn 10000 t (.agg cx) (.agg cy)).run P w= .ok r w):YieldsIf P ops S op (.bool r) a:=
 .inl ⟨hw,fun w _=>by
  unfold execOp
  simp only[ho,hx,hy,Sem.run_bind,Sem.run_pure,Result.andThen_ok,run_eqGuard_agg w .eql t x y cx cy hm,run_eql_struct,hr w]⟩
theorem Zju (p d:Nat)(y:Py)(g0:Nat)(sig:Int)(w:World)(h:Blk w p 382 (ptA d y))(hg:¬y.grp=0)(hs:Blk w g0 3 #[.int .i64 sig]):
 Calls Tryz.prog 306 #[.pointer (some ⟨p,0,none⟩),.slice (some ⟨g0,0,none⟩) 1 1] w fun e w'=>∃A c,e= .returned (.slice A 1 c)∧RdY Zl4 (fun _=>False) w' (.slice A 1 c) [(y.grp,sig)]∧Ext w w':=by
 obtain⟨z1,z2,z3,z4,ses,grp,sl⟩:=y
 dsimp only at hg⊢
 have HB:=zh h
 have k6:=h.cell 6
 have q0:=hs.cell 0
 simp only[zG] at k6 q0
 have hgb:(grp==0)=false:=by simpa using hg
 clear h hs hg
 go_enter Tryz.func306,Tryz.ntmps306
 go_wp2
 go_loopw [5,15] (fun u i wr=>∃ (m:Nat) (A:Option Addr) (c:Nat),m≤1∧u= .slice A m c∧i= .int .i64 m∧Hid (OwnS Zl4 392 w.heap.size (fun _=>False) wr (.slice A m c) (List.replicate m (grp,sig)))∧Hid (Ext w wr)) (fun _ i _=>1 - (intOf i).toNat)
 case atStart=>exact⟨0,none,0,Nat.zero_le _,rfl,rfl,zh (OwnS.nil _ _ _ _ _),zh (Ext.refl _)⟩
 case round=>
  obtain⟨m,A,c,hm,rfl,rfl,HO,hE⟩:=hrel
  by_cases hm1:m<1
  ·obtain rfl:m=0:=by omega
   have k6:=Zaa hE.out k6
   have q0:=Zaa hE.out q0
   have HRow:=zh HO.out.row
   have hz:=hE.out.size
   go_wp2_with(at_builtin;refine wpList_app (e:=Zl4) (base:=w.heap.size) (B:=fun _=>False) (A:=fun _=>False) rfl (.tmp 19) (.tmp 26) rfl Tryz.underlying356 Znr rfl (HO.out.alloc _) rfl (RdY.singleB (e:=Zl4) (cs:=[.int .i64 grp,.int .i64 sig]) (d:=(grp,sig)) rfl (Blk.new _ _ _)) rfl (fun _ _ h=>h.elim) (N:=1) rfl (by unfold maxLen;omega) (by omega) (by simp;omega) ?_;intro A9 c9 w9 o9 M9 _;have EN:=zh (Mod.toExt (hE.out.alloc _) M9 (fun k hk he=>by have:=(HRow.out k he).1;omega));have o9:=zh o9;clear M9)
   go_roundw
   case rel=>exact⟨1,A9,c9,Nat.le_refl _,rfl,by go_num,o9,EN⟩
   case measure=>simp[intOf]
  ·obtain rfl:m=1:=by omega
   go_wp2
   go_ret
   exact⟨A,c,rfl,Zp0 HO.out.rdT.y,hE.out⟩
def SzP (p d:Nat)(y:Py)(x1 x2 x3 x4:Int)(w:World)(e:Ending)(w':World):Prop:=
 (∃l,(l=[]∨l=[(y.grp,28)])∧∃A c,e= .returned (.slice A l.length c)∧RdY Zl4 (fun _=>False) w' (.slice A l.length c) l)∧Blk w' p 382 (ptA d ⟨x1,x2,x3,x4,y.ses,y.grp,y.sl⟩)∧Mod (fun k=>k=p) w w'
theorem Zhk (p d:Nat)(y:Py)(x1 x2 x3 x4:Int)(w:World)(h:Blk w p 382 (ptA d y))(hg:¬y.grp=0)(h1:ZbG x1)(h2:ZbG x2)(h3:ZbG x3)(h4:ZbG x4)(g1:ZbG y.z1)(g2:ZbG y.z2)(g3:ZbG y.z3)(g4:ZbG y.z4):
 Calls Tryz.prog 286 #[.pointer (some ⟨p,0,none⟩),.agg (szA x1 x2 x3 x4)] w (SzP p d y x1 x2 x3 x4 w):=by
 have hiZ:=zi Tryz.prog 35 4
 have HEQ:=zh (fun w'=>Zru h1 h2 h3 h4 g1 g2 g3 g4 w')
 have HEV:=zh (fun g0 w' (hb:Blk w' p 382 (ptA d ⟨x1,x2,x3,x4,y.ses,y.grp,y.sl⟩)) hs=>Zju p d ⟨x1,x2,x3,x4,y.ses,y.grp,y.sl⟩ g0 28 w' hb hg hs)
 obtain⟨z1,z2,z3,z4,ses,grp,sl⟩:=y
 dsimp only at HEQ HEV g1 g2 g3 g4 hg
 obtain⟨b,hb⟩:=zm (decide (x1=z1∧x2=z2∧x3=z3∧x4=z4))
 rw[hb] at HEQ
 have HBQ:=zh hb
 have HB:=zh h
 obtain⟨W1,hW1⟩:=zn (w.alloc (.cells (szA x1 x2 x3 x4) 35))
 have E1:Ext w W1:=by rw[hW1];exact(Ext.refl _).alloc _
 have B3:=zh (show Blk W1 w.heap.size 35 (szA x1 x2 x3 x4) by rw[hW1];exact Blk.new w _ _)
 have HB1:=zh (h.ext E1)
 have HW:=zh hW1
 have hR:∀w',Ext W1 w'→w'.rangeAt p 1 [.int .u32 z1,.int .u32 z2,.int .u32 z3,.int .u32 z4]:=fun w' E i u hu=>by
  rw[(HB1.out.ext E).cell]
  rcases i with _|_|_|_|i
  ·exact hu
  ·exact hu
  ·exact hu
  ·exact hu
  ·simp at hu
 have hpl:=h.lt
 clear h h1 h2 h3 h4 g1 g2 g3 g4 hW1 hg hb
 unfold SzP
 dsimp only
 go_enter Tryz.func286,Tryz.ntmps286
 go_upto_region 1 with fail
 rw[←HW.out]
 clear HW
 refine zg (fun w'=>Ext W1 w') zX fun hHeld=>?_
 obtain⟨D,hD⟩:=zn (W1.drew)
 have ED:Ext W1 D:=by rw[hD];exact(Ext.refl _).drew
 rw[←hD] at hHeld⊢
 clear hD
 refine zr 0 ?_
 refine zr 1 ?_
 refine zr 2 ?_
 (refine zU 3 rfl (Zac (by rfl) 35 _ rfl _ rfl 35 (szA x1 x2 x3 x4) _ _ (fun w' hSw=>(B3.out.ext hSw)) Tryz.underlying35 rfl hiZ) ?_)
 refine zr 4 ?_
 refine zr 5 ?_
 refine zr 6 ?_
 (refine zU 7 rfl (yieldsIf_load_mid (by rfl) 35 _ rfl _ _ rfl [.int .u32 z1,.int .u32 z2,.int .u32 z3,.int .u32 z4] _ (fun w' hSw=>(hR w' hSw)) Tryz.underlying35 rfl hiZ) ?_)
 (refine zT (i:=8) (v:=.bool b) rfl (ZfB (by rfl) 35 _ _ rfl (szA x1 x2 x3 x4) (szA z1 z2 z3 z4) rfl rfl b Zns HEQ.out) ?_;(try simp only[zP]))
 refine zr 9 ?_
 refine zd ?_
 clear hHeld hR
 have HBD:=zh (HB1.out.ext ED)
 have BD3:=zh (B3.out.ext ED)
 have E0D:=zh (E1.trans ED)
 clear HB1 B3 ED E1 HB HEQ
 cases b with
 |true=>
  go_wp2
  go_ret
  have h9:=HBQ.out
  rw[decide_eq_true_eq] at h9
  obtain⟨e1,e2,e3,e4⟩:=h9
  exact⟨⟨[],.inl rfl,none,0,rfl,RdS.y (RdS.nil _ _ _)⟩,by rw[e1,e2,e3,e4];exact HBD.out,Mod.of_ext E0D.out⟩
 |false=>
  have hth:D.there p 1 4:=fun t ht=>⟨by
   rw[HBD.out.cell]
   rcases t with _|_|_|_|t
   ·rfl
   ·rfl
   ·rfl
   ·rfl
   ·omega,HBD.out.frozen _⟩
  have B4:=zh (show Blk (D.setCells p 1 [.int .u32 x1,.int .u32 x2,.int .u32 x3,.int .u32 x4]) p 382 (ptA d ⟨x1,x2,x3,x4,ses,grp,sl⟩) from Blk.setCells [.int .u32 x1,.int .u32 x2,.int .u32 x3,.int .u32 x4] 1 D _ HBD.out (by simp))
  have M4:=zh (Mod.setCells [.int .u32 x1,.int .u32 x2,.int .u32 x3,.int .u32 x4] 1 w D (Mod.of_ext E0D.out:Mod (fun k=>k=p) w D))
  go_upto_region 4 with(first|(refine wpList_load_row rfl 35 _ rfl _ rfl 35 _ _ _ BD3.out Tryz.underlying35 rfl hiZ ?_)|(refine wpList_store_mid rfl 35 _ _ rfl p 1 (szA x1 x2 x3 x4) rfl rfl (by exact hth) hiZ (by simp[Value.oneCell']) ?_))
  obtain⟨D2,hD2⟩:=zn (D.setCells p 1 [.int .u32 x1,.int .u32 x2,.int .u32 x3,.int .u32 x4])
  rw[←hD2] at B4 M4⊢
  clear hD2 hth HBD BD3
  have EA:Ext D2 (D2.alloc (.cells #[.int .i64 28] 3)):=(Ext.refl _).alloc _
  have PA:=zh (Blk.new D2 3 #[.int .i64 28])
  have BA:=zh (B4.out.ext EA)
  have HEV:=zh (HEV.out _ _ BA.out PA.out)
  go_wp2_with fail
  refine(HEV.out).mono ?_
  rintro e w5 ⟨A5,c5,rfl,R5,E5⟩
  have E05:=zh (EA.trans E5)
  have R5:=zh R5
  have B5:=zh (BA.out.ext E5)
  clear HEV EA E5 PA BA
  go_wp2
  go_ret
  exact⟨⟨[(grp,28)],.inr rfl,A5,c5,rfl,R5.out⟩,B5.out,M4.out.ext E05.out⟩
end Go.Proofs.YtmmhcllibpmfnaaGreatDoor
