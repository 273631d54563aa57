/-
  No cell of these rows narrows 'for every input' (looked for: loops, veiled, ifaces, maps, wideKeys, modest, calm, conditions, laid).
  DERIVED. THE GIVEN ROWS OF THIS SEAT. 3 by the template 'for every input the law returns true; each argument reads behind the call as it read before'; 0 by the template 'total and deterministic' (their statements: YteljobleojhgmaaTotals.lean).
  GIVEN WITH THE SEED: the statements are not yours to turn. If you find one false, say at which input.
  Laid BY PROGRAM, IN A SANDBOX (cutbox-rows.mjs): the forced cells as the released guide's own fill.sh prints them over the translation 79a41ff885a32d25… (all of the seat's roots in one cut). By AI agents, Wed Nov 11 2026. No macro, syntax, notation, axiom, sorry.
-/
import Derived.Test.YteljobleojhgmaaChecked
import GoSem.Claim
import GoSem.ClaimJoined
import GoSem.ClaimMapViews
import Derived.JoinedTies
import Derived.KernelRfl
namespace Go.Proofs.Yteljobleojhgmaa
/- THE CELL 'sum', in the pinned program and in every row, IS THE sha256 OF THE DUMP (.gsa) THAT YteljobleojhgmaaProg.lean LOADS. Nothing in Lean hashes anything: it is a label: what it is worth is what the hold of that sum in a sandbox is worth. -/
noncomputable def Try.pinned : Pinned := { name := "yteljobleojhgmaa", sum := "79a41ff885a32d252ab7f331a6e7139d995422d7f16ba4f5f4f76f536c3c8104", checked := Try.checked }
namespace Rows
def none {H : Type} : Left H := { results := [], args := [] }

/-- 'parlourlaw21.DeliverKills': WHATEVER THE INPUT: true; the input reads as it did. -/
def deliverKillsSpec : ChangeSpec := { name := "deliverKills", fn := fun _ => fun
  | [d1, d2] => { results := [.lit (.bool true)], args := [d1, d2] }
  | _ => none }
def deliverKillsRow : OpenClaim := { program := "yteljobleojhgmaa", sum := "79a41ff885a32d252ab7f331a6e7139d995422d7f16ba4f5f4f76f536c3c8104", func := "parlour/parlourlaw21.DeliverKills", spec := "deliverKills", unfollowed := true, recurses := true, apart := false }
def DeliverKillsSaid : Prop := deliverKillsRow.holds Try.pinned (OpenSpec.ofChange deliverKillsSpec)

/-- ITS FALSE NEIGHBOUR: 'it returns false'. Refute it at one input. -/
def deliverKillsWrong : ChangeSpec := { name := "deliverKills", fn := fun _ => fun
  | [d1, d2] => { results := [.lit (.bool false)], args := [d1, d2] }
  | _ => none }
def DeliverKillsWrongFalsely : Prop := deliverKillsRow.holds Try.pinned (OpenSpec.ofChange deliverKillsWrong)

/-- 'parlourlaw21.DeliverBlocks': WHATEVER THE INPUT: true; the input reads as it did. -/
def deliverBlocksSpec : ChangeSpec := { name := "deliverBlocks", fn := fun _ => fun
  | [d1, d2, d3] => { results := [.lit (.bool true)], args := [d1, d2, d3] }
  | _ => none }
def deliverBlocksRow : OpenClaim := { program := "yteljobleojhgmaa", sum := "79a41ff885a32d252ab7f331a6e7139d995422d7f16ba4f5f4f76f536c3c8104", func := "parlour/parlourlaw21.DeliverBlocks", spec := "deliverBlocks", unfollowed := true, recurses := true, apart := false }
def DeliverBlocksSaid : Prop := deliverBlocksRow.holds Try.pinned (OpenSpec.ofChange deliverBlocksSpec)

/-- ITS FALSE NEIGHBOUR: 'it returns false'. Refute it at one input. -/
def deliverBlocksWrong : ChangeSpec := { name := "deliverBlocks", fn := fun _ => fun
  | [d1, d2, d3] => { results := [.lit (.bool false)], args := [d1, d2, d3] }
  | _ => none }
def DeliverBlocksWrongFalsely : Prop := deliverBlocksRow.holds Try.pinned (OpenSpec.ofChange deliverBlocksWrong)

/-- 'parlourlaw21.DeliverOrphans': WHATEVER THE INPUT: true; the input reads as it did. -/
def deliverOrphansSpec : ChangeSpec := { name := "deliverOrphans", fn := fun _ => fun
  | [d1, d2, d3] => { results := [.lit (.bool true)], args := [d1, d2, d3] }
  | _ => none }
def deliverOrphansRow : OpenClaim := { program := "yteljobleojhgmaa", sum := "79a41ff885a32d252ab7f331a6e7139d995422d7f16ba4f5f4f76f536c3c8104", func := "parlour/parlourlaw21.DeliverOrphans", spec := "deliverOrphans", unfollowed := true, recurses := true, apart := false }
def DeliverOrphansSaid : Prop := deliverOrphansRow.holds Try.pinned (OpenSpec.ofChange deliverOrphansSpec)

/-- ITS FALSE NEIGHBOUR: 'it returns false'. Refute it at one input. -/
def deliverOrphansWrong : ChangeSpec := { name := "deliverOrphans", fn := fun _ => fun
  | [d1, d2, d3] => { results := [.lit (.bool false)], args := [d1, d2, d3] }
  | _ => none }
def DeliverOrphansWrongFalsely : Prop := deliverOrphansRow.holds Try.pinned (OpenSpec.ofChange deliverOrphansWrong)

/- THE SECOND FORM. 'bulk': how many values and letters a reading holds, each counted each time it is reached (what is shared counts as often as it is met; a slice's spare places count too). A statement '..UptoSaid' is the law's where the arguments, and the package variables that the reading takes, are together of bulk at most 1048576: NARROWER than '..Said'. Prove '..Said' where nothing that the law and all that it calls make is longer than what came in: it says more and counts as full. Else prove '..UptoSaid'. A law counts once. -/
mutual
def uptoBulk {H : Type} : DataW H → Nat
  | .lit (.string bytes) => bytes.length + 1
  | .lit _ => 1
  | .nil => 1
  | .ptr d => uptoBulk d + 1
  | .slice elems spare => uptoBulkAll elems + uptoBulkAll spare + 1
  | .agg parts => uptoBulkAll parts + 1
  | .iface _ d => uptoBulk d + 1
  | .map entries => uptoBulkEntries entries + 1
  | .held _ => 1
def uptoBulkAll {H : Type} : List (DataW H) → Nat
  | [] => 0
  | d :: r => uptoBulk d + uptoBulkAll r
def uptoBulkEntries {H : Type} : List (Lit × DataW H) → Nat
  | [] => 0
  | x :: r => uptoBulkEntry x + uptoBulkEntries r
def uptoBulkEntry {H : Type} : Lit × DataW H → Nat
  | (.string bytes, d) => bytes.length + uptoBulk d + 1
  | (_, d) => uptoBulk d + 1
 end
def uptoSmall : (H : Type) → List (DataW H) → Bool := fun _ ds => decide (uptoBulkAll ds ≤ 1048576)
def OpenSpec.upto (s : _root_.Go.ChangeSpec) : _root_.Go.OpenSpec := { _root_.Go.OpenSpec.ofChange s with cond := some uptoSmall }

/-- 'parlourlaw21.DeliverKills', WHERE WHAT IT READS IS OF BULK AT MOST 1048576: true; the input reads as it did. -/
def deliverKillsUptoRow : OpenClaim := { program := "yteljobleojhgmaa", sum := "79a41ff885a32d252ab7f331a6e7139d995422d7f16ba4f5f4f76f536c3c8104", func := "parlour/parlourlaw21.DeliverKills", spec := "deliverKills", unfollowed := true, recurses := true, apart := false, narrowed := true }
def DeliverKillsUptoSaid : Prop := deliverKillsUptoRow.holds Try.pinned (OpenSpec.upto deliverKillsSpec)

/-- 'parlourlaw21.DeliverBlocks', WHERE WHAT IT READS IS OF BULK AT MOST 1048576: true; the input reads as it did. -/
def deliverBlocksUptoRow : OpenClaim := { program := "yteljobleojhgmaa", sum := "79a41ff885a32d252ab7f331a6e7139d995422d7f16ba4f5f4f76f536c3c8104", func := "parlour/parlourlaw21.DeliverBlocks", spec := "deliverBlocks", unfollowed := true, recurses := true, apart := false, narrowed := true }
def DeliverBlocksUptoSaid : Prop := deliverBlocksUptoRow.holds Try.pinned (OpenSpec.upto deliverBlocksSpec)

/-- 'parlourlaw21.DeliverOrphans', WHERE WHAT IT READS IS OF BULK AT MOST 1048576: true; the input reads as it did. -/
def deliverOrphansUptoRow : OpenClaim := { program := "yteljobleojhgmaa", sum := "79a41ff885a32d252ab7f331a6e7139d995422d7f16ba4f5f4f76f536c3c8104", func := "parlour/parlourlaw21.DeliverOrphans", spec := "deliverOrphans", unfollowed := true, recurses := true, apart := false, narrowed := true }
def DeliverOrphansUptoSaid : Prop := deliverOrphansUptoRow.holds Try.pinned (OpenSpec.upto deliverOrphansSpec)

end Rows
end Go.Proofs.Yteljobleojhgmaa
