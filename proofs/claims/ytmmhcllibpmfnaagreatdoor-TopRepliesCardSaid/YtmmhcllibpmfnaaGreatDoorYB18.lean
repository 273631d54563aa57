/- Parts EJ28. No condition. -/
import Derived.JoinedOf
import Derived.ProofKit
import Derived.Test.YtmmhcllibpmfnaaGreatDoorChecked
import Derived.Test.YtmmhcllibpmfnaaGreatDoorRows
set_option maxRecDepth 100000
set_option maxHeartbeats 8000000
namespace Go.Proofs.YtmmhcllibpmfnaaGreatDoor
open Go.RowKit
theorem ZdA:(Rows.topRepliesRow.wf (OpenSpec.ofChange Rows.topRepliesSpec))=true:=by kernel_rfl
theorem ZdB:(laidOutB Tryz.prog)=true:=by kernel_rfl
theorem ZdC:(mapsRowed Tryz.prog)=true:=by kernel_rfl
theorem ZdD:(Tryz.f3.params.all (Tryz.prog.readableRec ·))=true:=by kernel_rfl
theorem ZdE:(namedTie Tryz.prog Rows.topRepliesRow.named Rows.topRepliesSpec.vars)=true:=by kernel_rfl
theorem ZdF:((Rows.topRepliesRow.stops== []))=true:=by kernel_rfl
theorem ZdG:((Tryz.prog.stops== []))=true:=by kernel_rfl
theorem ZdH:((Rows.topRepliesRow.knobs== []))=true:=by kernel_rfl
theorem ZdI:((Tryz.prog.stopKnobs== []))=true:=by kernel_rfl
theorem Zc1:((Rows.topRepliesRow.inPlace==Tryz.prog.inPlace 3))=true:=by kernel_rfl
theorem Zc2:((Rows.topRepliesRow.unfollowed==Tryz.prog.unfollowed 3))=true:=by kernel_rfl
theorem Zc3:((Rows.topRepliesRow.recurses==Tryz.prog.recurses 3))=true:=by kernel_rfl
theorem Zc4:((Rows.topRepliesRow.named==Tryz.prog.varsNamed 3))=true:=by kernel_rfl
theorem Zc5:((Rows.topRepliesRow.maps== (Tryz.f3.params.toList++Rows.topRepliesSpec.plain.varTypes Tryz.prog).any (Tryz.prog.mapsRec ·)))=true:=by kernel_rfl
theorem Zc6:((Rows.topRepliesRow.ifaces== (Tryz.f3.params.toList++Rows.topRepliesSpec.plain.varTypes Tryz.prog).any (Tryz.prog.ifacesRec ·)))=true:=by kernel_rfl
theorem Zc7:((Rows.topRepliesRow.mapsOut==Tryz.prog.mapsAmong Tryz.f3.resultTypes.toList))=true:=by kernel_rfl
theorem Zc8:((Rows.topRepliesRow.loops== (Tryz.f3.params.toList++Rows.topRepliesSpec.plain.varTypes Tryz.prog).any (Tryz.prog.loopsFrom ·)))=true:=by kernel_rfl
theorem Zc9:((Rows.topRepliesRow.wideKeys== (Tryz.f3.params.toList++Rows.topRepliesSpec.plain.varTypes Tryz.prog++Tryz.f3.resultTypes.toList).any (Tryz.prog.wideKeysFrom ·)))=true:=by kernel_rfl
theorem Zda:(Rows.topRepliesSpec.vars.all (Tryz.prog.varReadable ·))=true:=by kernel_rfl
theorem Zdb:(Tryz.f3.resultTypes.all (fun t=>Tryz.prog.readableRec t&&decide (t<Tryz.prog.types.size)))=true:=by kernel_rfl
theorem Zdc:((Rows.topRepliesRow.ifacesOut==Tryz.f3.resultTypes.toList.any (Tryz.prog.ifacesRec ·)))=true:=by kernel_rfl
theorem Zdd:((Rows.topRepliesRow.loopsOut==Tryz.f3.resultTypes.toList.any (Tryz.prog.loopsFrom ·)))=true:=by kernel_rfl
theorem Zde:((Rows.topRepliesRow.plainKeys==Tryz.prog.plainKeys))=true:=by kernel_rfl
theorem Zdf:(Rows.topRepliesRow.shortTexts.isNone)=true:=by kernel_rfl
theorem Zdg:(Tryz.prog.stopsHeard)=true:=by kernel_rfl
theorem Zdh:(Tryz.prog.mayEnter)=true:=by kernel_rfl
theorem Zdi:((Rows.topRepliesRow.lifted==Tryz.prog.liftsFinal))=true:=by kernel_rfl
theorem Zdj:((Tryz.prog.make==some Rows.topRepliesRow.make))=true:=by kernel_rfl
theorem Zdk:((Rows.topRepliesRow.kinds== (if Rows.topRepliesRow.domain.isEmpty then[] else Tryz.f3.params.toList.map fun t=>match Tryz.prog.underlying t with|some (.int k)=>some k|_=>none)))=true:=by kernel_rfl
theorem Zdl:((Rows.topRepliesRow.pinned==Rows.topRepliesRow.pinnedBy))=true:=by kernel_rfl
theorem Zdm:((Rows.topRepliesRow.veiled== (Tryz.f3.params.toList++Rows.topRepliesSpec.plain.varTypes Tryz.prog++Tryz.f3.resultTypes.toList).any (Tryz.prog.veiledRec ·)))=true:=by kernel_rfl
theorem Zdn:(Rows.topRepliesRow.veiledFits Tryz.prog Tryz.f3.params.toList (Tryz.f3.params.toList++Rows.topRepliesSpec.plain.varTypes Tryz.prog++Tryz.f3.resultTypes.toList))=true:=by kernel_rfl
theorem ZaS {a b:Bool}(h:a=true)(h2:b=true):(a&&b)=true:=by rw[h,h2];rfl
theorem ZdJ:joinedFacts Tryz.prog 3 Tryz.f3 Rows.topRepliesSpec Rows.topRepliesRow=true:=ZaS (ZaS (ZaS (ZaS (ZaS (ZaS (ZaS (ZaS (ZaS (ZaS (ZaS (ZaS (ZaS (ZaS (ZaS (ZaS (ZaS (ZaS (ZaS (ZaS (ZaS (ZaS (ZaS (ZaS (ZaS (ZaS (ZaS (ZaS (ZaS (ZaS (ZaS ZdA ZdB) ZdC) ZdD) ZdE) ZdF) ZdG) ZdH) ZdI) Zc1) Zc2) Zc3) Zc4) Zc5) Zc6) Zc7) Zc8) Zc9) Zda) Zdb) Zdc) Zdd) Zde) Zdf) Zdg) Zdh) Zdi) Zdj) Zdk) Zdl) Zdm) Zdn
end Go.Proofs.YtmmhcllibpmfnaaGreatDoor
