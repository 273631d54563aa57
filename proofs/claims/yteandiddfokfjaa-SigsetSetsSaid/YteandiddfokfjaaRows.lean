/-
  No cell of these rows narrows 'for every input' (looked for: loops, veiled, ifaces, maps, wideKeys, modest, calm, conditions, laid).
  DERIVED. THE GIVEN ROWS OF THIS SEAT. 5 by the template 'for every input the law returns true; each argument reads behind the call as it read before'; 0 by the template 'total and deterministic' (their statements: YteandiddfokfjaaTotals.lean).
  GIVEN WITH THE SEED: the statements are not yours to turn. If you find one false, say at which input.
  Laid BY PROGRAM, IN A SANDBOX (cutbox-rows.mjs): the forced cells as the released guide's own fill.sh prints them over the translation d2d0eee62c696a70… (all of the seat's roots in one cut). By AI agents, Wed Nov 11 2026. No macro, syntax, notation, axiom, sorry.
-/
import Derived.Test.YteandiddfokfjaaChecked
import GoSem.Claim
import GoSem.ClaimJoined
import GoSem.ClaimMapViews
import Derived.JoinedTies
import Derived.KernelRfl
namespace Go.Proofs.Yteandiddfokfjaa
/- THE CELL 'sum', in the pinned program and in every row, IS THE sha256 OF THE DUMP (.gsa) THAT YteandiddfokfjaaProg.lean LOADS. Nothing in Lean hashes anything: it is a label: what it is worth is what the hold of that sum in a sandbox is worth. -/
noncomputable def Try.pinned : Pinned := { name := "yteandiddfokfjaa", sum := "d2d0eee62c696a707514646bda4d5ac5d24245f56bd6ef4485cd540a2dc1aee1", checked := Try.checked }
namespace Rows
def none {H : Type} : Left H := { results := [], args := [] }

/-- 'parlourlaw18.SigsetSets': WHATEVER THE INPUT: true; the input reads as it did. -/
def sigsetSetsSpec : ChangeSpec := { name := "sigsetSets", fn := fun _ => fun
  | [d1, d2, d3] => { results := [.lit (.bool true)], args := [d1, d2, d3] }
  | _ => none }
def sigsetSetsRow : OpenClaim := { program := "yteandiddfokfjaa", sum := "d2d0eee62c696a707514646bda4d5ac5d24245f56bd6ef4485cd540a2dc1aee1", func := "parlour/parlourlaw18.SigsetSets", spec := "sigsetSets", unfollowed := true, recurses := true, apart := false }
def SigsetSetsSaid : Prop := sigsetSetsRow.holds Try.pinned (OpenSpec.ofChange sigsetSetsSpec)

/-- ITS FALSE NEIGHBOUR: 'it returns false'. Refute it at one input. -/
def sigsetSetsWrong : ChangeSpec := { name := "sigsetSets", fn := fun _ => fun
  | [d1, d2, d3] => { results := [.lit (.bool false)], args := [d1, d2, d3] }
  | _ => none }
def SigsetSetsWrongFalsely : Prop := sigsetSetsRow.holds Try.pinned (OpenSpec.ofChange sigsetSetsWrong)

/-- 'parlourlaw18.SigsetActs': WHATEVER THE INPUT: true; the input reads as it did. -/
def sigsetActsSpec : ChangeSpec := { name := "sigsetActs", fn := fun _ => fun
  | [d1, d2, d3] => { results := [.lit (.bool true)], args := [d1, d2, d3] }
  | _ => none }
def sigsetActsRow : OpenClaim := { program := "yteandiddfokfjaa", sum := "d2d0eee62c696a707514646bda4d5ac5d24245f56bd6ef4485cd540a2dc1aee1", func := "parlour/parlourlaw18.SigsetActs", spec := "sigsetActs", unfollowed := true, recurses := true, apart := false }
def SigsetActsSaid : Prop := sigsetActsRow.holds Try.pinned (OpenSpec.ofChange sigsetActsSpec)

/-- ITS FALSE NEIGHBOUR: 'it returns false'. Refute it at one input. -/
def sigsetActsWrong : ChangeSpec := { name := "sigsetActs", fn := fun _ => fun
  | [d1, d2, d3] => { results := [.lit (.bool false)], args := [d1, d2, d3] }
  | _ => none }
def SigsetActsWrongFalsely : Prop := sigsetActsRow.holds Try.pinned (OpenSpec.ofChange sigsetActsWrong)

/-- 'parlourlaw18.SigsetPicks': WHATEVER THE INPUT: true; the input reads as it did. -/
def sigsetPicksSpec : ChangeSpec := { name := "sigsetPicks", fn := fun _ => fun
  | [d1, d2] => { results := [.lit (.bool true)], args := [d1, d2] }
  | _ => none }
def sigsetPicksRow : OpenClaim := { program := "yteandiddfokfjaa", sum := "d2d0eee62c696a707514646bda4d5ac5d24245f56bd6ef4485cd540a2dc1aee1", func := "parlour/parlourlaw18.SigsetPicks", spec := "sigsetPicks", unfollowed := true, recurses := true, apart := false }
def SigsetPicksSaid : Prop := sigsetPicksRow.holds Try.pinned (OpenSpec.ofChange sigsetPicksSpec)

/-- ITS FALSE NEIGHBOUR: 'it returns false'. Refute it at one input. -/
def sigsetPicksWrong : ChangeSpec := { name := "sigsetPicks", fn := fun _ => fun
  | [d1, d2] => { results := [.lit (.bool false)], args := [d1, d2] }
  | _ => none }
def SigsetPicksWrongFalsely : Prop := sigsetPicksRow.holds Try.pinned (OpenSpec.ofChange sigsetPicksWrong)

/-- 'parlourlaw18.SigsetBack': WHATEVER THE INPUT: true; the input reads as it did. -/
def sigsetBackSpec : ChangeSpec := { name := "sigsetBack", fn := fun _ => fun
  | [d1, d2, d3] => { results := [.lit (.bool true)], args := [d1, d2, d3] }
  | _ => none }
def sigsetBackRow : OpenClaim := { program := "yteandiddfokfjaa", sum := "d2d0eee62c696a707514646bda4d5ac5d24245f56bd6ef4485cd540a2dc1aee1", func := "parlour/parlourlaw18.SigsetBack", spec := "sigsetBack", unfollowed := true, recurses := true, apart := false }
def SigsetBackSaid : Prop := sigsetBackRow.holds Try.pinned (OpenSpec.ofChange sigsetBackSpec)

/-- ITS FALSE NEIGHBOUR: 'it returns false'. Refute it at one input. -/
def sigsetBackWrong : ChangeSpec := { name := "sigsetBack", fn := fun _ => fun
  | [d1, d2, d3] => { results := [.lit (.bool false)], args := [d1, d2, d3] }
  | _ => none }
def SigsetBackWrongFalsely : Prop := sigsetBackRow.holds Try.pinned (OpenSpec.ofChange sigsetBackWrong)

/-- 'parlourlaw18.SigsetNames': WHATEVER THE INPUT: true; the input reads as it did. -/
def sigsetNamesSpec : ChangeSpec := { name := "sigsetNames", fn := fun _ => fun
  | [d1, d2] => { results := [.lit (.bool true)], args := [d1, d2] }
  | _ => none }
def sigsetNamesRow : OpenClaim := { program := "yteandiddfokfjaa", sum := "d2d0eee62c696a707514646bda4d5ac5d24245f56bd6ef4485cd540a2dc1aee1", func := "parlour/parlourlaw18.SigsetNames", spec := "sigsetNames", unfollowed := true, recurses := true, apart := false }
def SigsetNamesSaid : Prop := sigsetNamesRow.holds Try.pinned (OpenSpec.ofChange sigsetNamesSpec)

/-- ITS FALSE NEIGHBOUR: 'it returns false'. Refute it at one input. -/
def sigsetNamesWrong : ChangeSpec := { name := "sigsetNames", fn := fun _ => fun
  | [d1, d2] => { results := [.lit (.bool false)], args := [d1, d2] }
  | _ => none }
def SigsetNamesWrongFalsely : Prop := sigsetNamesRow.holds Try.pinned (OpenSpec.ofChange sigsetNamesWrong)

/- THE SECOND FORM. 'bulk': how many values and letters a reading holds, each counted each time it is reached (what is shared counts as often as it is met; a slice's spare places count too). A statement '..UptoSaid' is the law's where the arguments, and the package variables that the reading takes, are together of bulk at most 1048576: NARROWER than '..Said'. Prove '..Said' where nothing that the law and all that it calls make is longer than what came in: it says more and counts as full. Else prove '..UptoSaid'. A law counts once. -/
mutual
def uptoBulk {H : Type} : DataW H → Nat
  | .lit (.string bytes) => bytes.length + 1
  | .lit _ => 1
  | .nil => 1
  | .ptr d => uptoBulk d + 1
  | .slice elems spare => uptoBulkAll elems + uptoBulkAll spare + 1
  | .agg parts => uptoBulkAll parts + 1
  | .iface _ d => uptoBulk d + 1
  | .map entries => uptoBulkEntries entries + 1
  | .held _ => 1
def uptoBulkAll {H : Type} : List (DataW H) → Nat
  | [] => 0
  | d :: r => uptoBulk d + uptoBulkAll r
def uptoBulkEntries {H : Type} : List (Lit × DataW H) → Nat
  | [] => 0
  | x :: r => uptoBulkEntry x + uptoBulkEntries r
def uptoBulkEntry {H : Type} : Lit × DataW H → Nat
  | (.string bytes, d) => bytes.length + uptoBulk d + 1
  | (_, d) => uptoBulk d + 1
 end
def uptoSmall : (H : Type) → List (DataW H) → Bool := fun _ ds => decide (uptoBulkAll ds ≤ 1048576)
def OpenSpec.upto (s : _root_.Go.ChangeSpec) : _root_.Go.OpenSpec := { _root_.Go.OpenSpec.ofChange s with cond := some uptoSmall }

/-- 'parlourlaw18.SigsetSets', WHERE WHAT IT READS IS OF BULK AT MOST 1048576: true; the input reads as it did. -/
def sigsetSetsUptoRow : OpenClaim := { program := "yteandiddfokfjaa", sum := "d2d0eee62c696a707514646bda4d5ac5d24245f56bd6ef4485cd540a2dc1aee1", func := "parlour/parlourlaw18.SigsetSets", spec := "sigsetSets", unfollowed := true, recurses := true, apart := false, narrowed := true }
def SigsetSetsUptoSaid : Prop := sigsetSetsUptoRow.holds Try.pinned (OpenSpec.upto sigsetSetsSpec)

/-- 'parlourlaw18.SigsetActs', WHERE WHAT IT READS IS OF BULK AT MOST 1048576: true; the input reads as it did. -/
def sigsetActsUptoRow : OpenClaim := { program := "yteandiddfokfjaa", sum := "d2d0eee62c696a707514646bda4d5ac5d24245f56bd6ef4485cd540a2dc1aee1", func := "parlour/parlourlaw18.SigsetActs", spec := "sigsetActs", unfollowed := true, recurses := true, apart := false, narrowed := true }
def SigsetActsUptoSaid : Prop := sigsetActsUptoRow.holds Try.pinned (OpenSpec.upto sigsetActsSpec)

/-- 'parlourlaw18.SigsetPicks', WHERE WHAT IT READS IS OF BULK AT MOST 1048576: true; the input reads as it did. -/
def sigsetPicksUptoRow : OpenClaim := { program := "yteandiddfokfjaa", sum := "d2d0eee62c696a707514646bda4d5ac5d24245f56bd6ef4485cd540a2dc1aee1", func := "parlour/parlourlaw18.SigsetPicks", spec := "sigsetPicks", unfollowed := true, recurses := true, apart := false, narrowed := true }
def SigsetPicksUptoSaid : Prop := sigsetPicksUptoRow.holds Try.pinned (OpenSpec.upto sigsetPicksSpec)

/-- 'parlourlaw18.SigsetBack', WHERE WHAT IT READS IS OF BULK AT MOST 1048576: true; the input reads as it did. -/
def sigsetBackUptoRow : OpenClaim := { program := "yteandiddfokfjaa", sum := "d2d0eee62c696a707514646bda4d5ac5d24245f56bd6ef4485cd540a2dc1aee1", func := "parlour/parlourlaw18.SigsetBack", spec := "sigsetBack", unfollowed := true, recurses := true, apart := false, narrowed := true }
def SigsetBackUptoSaid : Prop := sigsetBackUptoRow.holds Try.pinned (OpenSpec.upto sigsetBackSpec)

/-- 'parlourlaw18.SigsetNames', WHERE WHAT IT READS IS OF BULK AT MOST 1048576: true; the input reads as it did. -/
def sigsetNamesUptoRow : OpenClaim := { program := "yteandiddfokfjaa", sum := "d2d0eee62c696a707514646bda4d5ac5d24245f56bd6ef4485cd540a2dc1aee1", func := "parlour/parlourlaw18.SigsetNames", spec := "sigsetNames", unfollowed := true, recurses := true, apart := false, narrowed := true }
def SigsetNamesUptoSaid : Prop := sigsetNamesUptoRow.holds Try.pinned (OpenSpec.upto sigsetNamesSpec)

end Rows
end Go.Proofs.Yteandiddfokfjaa
