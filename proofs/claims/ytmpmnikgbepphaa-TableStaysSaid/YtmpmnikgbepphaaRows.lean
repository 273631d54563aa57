/-
  No cell of these rows narrows 'for every input' (looked for: loops, veiled, ifaces, maps, wideKeys, modest, calm, conditions, laid).
  DERIVED. THE GIVEN ROWS OF THIS SEAT. 5 by the template 'for every input the law returns true; each argument reads behind the call as it read before'; 0 by the template 'total and deterministic' (their statements: YtmpmnikgbepphaaTotals.lean).
  GIVEN WITH THE SEED: the statements are not yours to turn. If you find one false, say at which input.
  Laid BY PROGRAM, IN A SANDBOX (cutbox-rows.mjs): the forced cells as the released guide's own fill.sh prints them over the translation cca7f5fb8d85b67f… (all of the seat's roots in one cut). By AI agents, Wed Nov 11 2026. No macro, syntax, notation, axiom, sorry.
-/
import Derived.Test.YtmpmnikgbepphaaChecked
import GoSem.Claim
import GoSem.ClaimJoined
import GoSem.ClaimMapViews
import Derived.JoinedTies
import Derived.KernelRfl
namespace Go.Proofs.Ytmpmnikgbepphaa
/- THE CELL 'sum', in the pinned program and in every row, IS THE sha256 OF THE DUMP (.gsa) THAT YtmpmnikgbepphaaProg.lean LOADS. Nothing in Lean hashes anything: it is a label: what it is worth is what the hold of that sum in a sandbox is worth. -/
noncomputable def Try.pinned : Pinned := { name := "ytmpmnikgbepphaa", sum := "cca7f5fb8d85b67f15cfe59615a59a134282e58a3cd768cea743eec1dddec3af", checked := Try.checked }
namespace Rows
def none {H : Type} : Left H := { results := [], args := [] }

/-- 'parlourlaw20.TableWaits': WHATEVER THE INPUT: true; the input reads as it did. -/
def tableWaitsSpec : ChangeSpec := { name := "tableWaits", fn := fun _ => fun
  | [d1, d2, d3] => { results := [.lit (.bool true)], args := [d1, d2, d3] }
  | _ => none }
def tableWaitsRow : OpenClaim := { program := "ytmpmnikgbepphaa", sum := "cca7f5fb8d85b67f15cfe59615a59a134282e58a3cd768cea743eec1dddec3af", func := "parlour/parlourlaw20.TableWaits", spec := "tableWaits", unfollowed := true, recurses := true, apart := false }
def TableWaitsSaid : Prop := tableWaitsRow.holds Try.pinned (OpenSpec.ofChange tableWaitsSpec)

/-- ITS FALSE NEIGHBOUR: 'it returns false'. Refute it at one input. -/
def tableWaitsWrong : ChangeSpec := { name := "tableWaits", fn := fun _ => fun
  | [d1, d2, d3] => { results := [.lit (.bool false)], args := [d1, d2, d3] }
  | _ => none }
def TableWaitsWrongFalsely : Prop := tableWaitsRow.holds Try.pinned (OpenSpec.ofChange tableWaitsWrong)

/-- 'parlourlaw20.TableForks': WHATEVER THE INPUT: true; the input reads as it did. -/
def tableForksSpec : ChangeSpec := { name := "tableForks", fn := fun _ => fun
  | [d1, d2, d3] => { results := [.lit (.bool true)], args := [d1, d2, d3] }
  | _ => none }
def tableForksRow : OpenClaim := { program := "ytmpmnikgbepphaa", sum := "cca7f5fb8d85b67f15cfe59615a59a134282e58a3cd768cea743eec1dddec3af", func := "parlour/parlourlaw20.TableForks", spec := "tableForks", unfollowed := true, recurses := true, apart := false }
def TableForksSaid : Prop := tableForksRow.holds Try.pinned (OpenSpec.ofChange tableForksSpec)

/-- ITS FALSE NEIGHBOUR: 'it returns false'. Refute it at one input. -/
def tableForksWrong : ChangeSpec := { name := "tableForks", fn := fun _ => fun
  | [d1, d2, d3] => { results := [.lit (.bool false)], args := [d1, d2, d3] }
  | _ => none }
def TableForksWrongFalsely : Prop := tableForksRow.holds Try.pinned (OpenSpec.ofChange tableForksWrong)

/-- 'parlourlaw20.TableOrphans': WHATEVER THE INPUT: true; the input reads as it did. -/
def tableOrphansSpec : ChangeSpec := { name := "tableOrphans", fn := fun _ => fun
  | [d1, d2] => { results := [.lit (.bool true)], args := [d1, d2] }
  | _ => none }
def tableOrphansRow : OpenClaim := { program := "ytmpmnikgbepphaa", sum := "cca7f5fb8d85b67f15cfe59615a59a134282e58a3cd768cea743eec1dddec3af", func := "parlour/parlourlaw20.TableOrphans", spec := "tableOrphans", unfollowed := true, recurses := true, apart := false }
def TableOrphansSaid : Prop := tableOrphansRow.holds Try.pinned (OpenSpec.ofChange tableOrphansSpec)

/-- ITS FALSE NEIGHBOUR: 'it returns false'. Refute it at one input. -/
def tableOrphansWrong : ChangeSpec := { name := "tableOrphans", fn := fun _ => fun
  | [d1, d2] => { results := [.lit (.bool false)], args := [d1, d2] }
  | _ => none }
def TableOrphansWrongFalsely : Prop := tableOrphansRow.holds Try.pinned (OpenSpec.ofChange tableOrphansWrong)

/-- 'parlourlaw20.TableAsks': WHATEVER THE INPUT: true; the input reads as it did. -/
def tableAsksSpec : ChangeSpec := { name := "tableAsks", fn := fun _ => fun
  | [d] => { results := [.lit (.bool true)], args := [d] }
  | _ => none }
def tableAsksRow : OpenClaim := { program := "ytmpmnikgbepphaa", sum := "cca7f5fb8d85b67f15cfe59615a59a134282e58a3cd768cea743eec1dddec3af", func := "parlour/parlourlaw20.TableAsks", spec := "tableAsks", unfollowed := true, recurses := true, apart := false }
def TableAsksSaid : Prop := tableAsksRow.holds Try.pinned (OpenSpec.ofChange tableAsksSpec)

/-- ITS FALSE NEIGHBOUR: 'it returns false'. Refute it at one input. -/
def tableAsksWrong : ChangeSpec := { name := "tableAsks", fn := fun _ => fun
  | [d] => { results := [.lit (.bool false)], args := [d] }
  | _ => none }
def TableAsksWrongFalsely : Prop := tableAsksRow.holds Try.pinned (OpenSpec.ofChange tableAsksWrong)

/-- 'parlourlaw20.TableStays': WHATEVER THE INPUT: true; the input reads as it did. -/
def tableStaysSpec : ChangeSpec := { name := "tableStays", fn := fun _ => fun
  | [d] => { results := [.lit (.bool true)], args := [d] }
  | _ => none }
def tableStaysRow : OpenClaim := { program := "ytmpmnikgbepphaa", sum := "cca7f5fb8d85b67f15cfe59615a59a134282e58a3cd768cea743eec1dddec3af", func := "parlour/parlourlaw20.TableStays", spec := "tableStays", unfollowed := true, recurses := true, apart := false }
def TableStaysSaid : Prop := tableStaysRow.holds Try.pinned (OpenSpec.ofChange tableStaysSpec)

/-- ITS FALSE NEIGHBOUR: 'it returns false'. Refute it at one input. -/
def tableStaysWrong : ChangeSpec := { name := "tableStays", fn := fun _ => fun
  | [d] => { results := [.lit (.bool false)], args := [d] }
  | _ => none }
def TableStaysWrongFalsely : Prop := tableStaysRow.holds Try.pinned (OpenSpec.ofChange tableStaysWrong)

/- THE SECOND FORM. 'bulk': how many values and letters a reading holds, each counted each time it is reached (what is shared counts as often as it is met; a slice's spare places count too). A statement '..UptoSaid' is the law's where the arguments, and the package variables that the reading takes, are together of bulk at most 1048576: NARROWER than '..Said'. Prove '..Said' where nothing that the law and all that it calls make is longer than what came in: it says more and counts as full. Else prove '..UptoSaid'. A law counts once. -/
mutual
def uptoBulk {H : Type} : DataW H → Nat
  | .lit (.string bytes) => bytes.length + 1
  | .lit _ => 1
  | .nil => 1
  | .ptr d => uptoBulk d + 1
  | .slice elems spare => uptoBulkAll elems + uptoBulkAll spare + 1
  | .agg parts => uptoBulkAll parts + 1
  | .iface _ d => uptoBulk d + 1
  | .map entries => uptoBulkEntries entries + 1
  | .held _ => 1
def uptoBulkAll {H : Type} : List (DataW H) → Nat
  | [] => 0
  | d :: r => uptoBulk d + uptoBulkAll r
def uptoBulkEntries {H : Type} : List (Lit × DataW H) → Nat
  | [] => 0
  | x :: r => uptoBulkEntry x + uptoBulkEntries r
def uptoBulkEntry {H : Type} : Lit × DataW H → Nat
  | (.string bytes, d) => bytes.length + uptoBulk d + 1
  | (_, d) => uptoBulk d + 1
 end
def uptoSmall : (H : Type) → List (DataW H) → Bool := fun _ ds => decide (uptoBulkAll ds ≤ 1048576)
def OpenSpec.upto (s : _root_.Go.ChangeSpec) : _root_.Go.OpenSpec := { _root_.Go.OpenSpec.ofChange s with cond := some uptoSmall }

/-- 'parlourlaw20.TableWaits', WHERE WHAT IT READS IS OF BULK AT MOST 1048576: true; the input reads as it did. -/
def tableWaitsUptoRow : OpenClaim := { program := "ytmpmnikgbepphaa", sum := "cca7f5fb8d85b67f15cfe59615a59a134282e58a3cd768cea743eec1dddec3af", func := "parlour/parlourlaw20.TableWaits", spec := "tableWaits", unfollowed := true, recurses := true, apart := false, narrowed := true }
def TableWaitsUptoSaid : Prop := tableWaitsUptoRow.holds Try.pinned (OpenSpec.upto tableWaitsSpec)

/-- 'parlourlaw20.TableForks', WHERE WHAT IT READS IS OF BULK AT MOST 1048576: true; the input reads as it did. -/
def tableForksUptoRow : OpenClaim := { program := "ytmpmnikgbepphaa", sum := "cca7f5fb8d85b67f15cfe59615a59a134282e58a3cd768cea743eec1dddec3af", func := "parlour/parlourlaw20.TableForks", spec := "tableForks", unfollowed := true, recurses := true, apart := false, narrowed := true }
def TableForksUptoSaid : Prop := tableForksUptoRow.holds Try.pinned (OpenSpec.upto tableForksSpec)

/-- 'parlourlaw20.TableOrphans', WHERE WHAT IT READS IS OF BULK AT MOST 1048576: true; the input reads as it did. -/
def tableOrphansUptoRow : OpenClaim := { program := "ytmpmnikgbepphaa", sum := "cca7f5fb8d85b67f15cfe59615a59a134282e58a3cd768cea743eec1dddec3af", func := "parlour/parlourlaw20.TableOrphans", spec := "tableOrphans", unfollowed := true, recurses := true, apart := false, narrowed := true }
def TableOrphansUptoSaid : Prop := tableOrphansUptoRow.holds Try.pinned (OpenSpec.upto tableOrphansSpec)

/-- 'parlourlaw20.TableAsks', WHERE WHAT IT READS IS OF BULK AT MOST 1048576: true; the input reads as it did. -/
def tableAsksUptoRow : OpenClaim := { program := "ytmpmnikgbepphaa", sum := "cca7f5fb8d85b67f15cfe59615a59a134282e58a3cd768cea743eec1dddec3af", func := "parlour/parlourlaw20.TableAsks", spec := "tableAsks", unfollowed := true, recurses := true, apart := false, narrowed := true }
def TableAsksUptoSaid : Prop := tableAsksUptoRow.holds Try.pinned (OpenSpec.upto tableAsksSpec)

/-- 'parlourlaw20.TableStays', WHERE WHAT IT READS IS OF BULK AT MOST 1048576: true; the input reads as it did. -/
def tableStaysUptoRow : OpenClaim := { program := "ytmpmnikgbepphaa", sum := "cca7f5fb8d85b67f15cfe59615a59a134282e58a3cd768cea743eec1dddec3af", func := "parlour/parlourlaw20.TableStays", spec := "tableStays", unfollowed := true, recurses := true, apart := false, narrowed := true }
def TableStaysUptoSaid : Prop := tableStaysUptoRow.holds Try.pinned (OpenSpec.upto tableStaysSpec)

end Rows
end Go.Proofs.Ytmpmnikgbepphaa
