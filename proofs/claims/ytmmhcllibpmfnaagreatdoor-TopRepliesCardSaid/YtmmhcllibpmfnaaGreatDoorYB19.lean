/- Parts EK28. No condition. -/
import Derived.Test.YtmmhcllibpmfnaaGreatDoorYB18
import Derived.SevenTiedAt
import Derived.Test.YtmmhcllibpmfnaaGreatDoorCards
set_option maxRecDepth 100000
set_option maxHeartbeats 8000000
namespace Go.Proofs.YtmmhcllibpmfnaaGreatDoor
open Go.RowKit
theorem ZbR:Tryz.prog.funcNamed "parlour/parlourtop.TopReplies" =some 3:=by kernel_rfl
theorem topReplies_wft:Rows.topRepliesRow.wfByText (OpenSpec.ofChange Rows.topRepliesSpec)=true:=by kernel_rfl
theorem topReplies_main:Tryz.pinned.checked.prog.mainIs=some (Rows.topRepliesCard.stood.harness.1,Rows.topRepliesCard.stood.harness.2.toList):=by kernel_rfl
theorem ZdK:false=Tryz.pinned.checked.prog.looks []:=by kernel_rfl
theorem ZeE:false=Rows.topRepliesRow.goesBy Tryz.pinned.checked.prog:=by kernel_rfl
theorem ZeF:Tryz.f3.isWrapper Tryz.pinned.checked.prog Rows.topRepliesRow.wrapper Rows.topRepliesRow.mainSum:=by
 unfold Func.isWrapper
 first|(rw[if_pos (by decide+kernel)];kernel_rfl)|(rw[if_neg (by decide+kernel)];exact⟨rfl,rfl⟩)
end Go.Proofs.YtmmhcllibpmfnaaGreatDoor
