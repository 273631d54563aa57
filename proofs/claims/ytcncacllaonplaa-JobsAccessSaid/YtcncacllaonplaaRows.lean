/-
  No cell of these rows narrows 'for every input' (looked for: loops, veiled, ifaces, maps, wideKeys, modest, calm, conditions, laid).
  DERIVED. THE GIVEN ROWS OF THIS SEAT. 3 by the template 'for every input the law returns true; each argument reads behind the call as it read before'; 0 by the template 'total and deterministic' (their statements: YtcncacllaonplaaTotals.lean).
  GIVEN WITH THE SEED: the statements are not yours to turn. If you find one false, say at which input.
  Laid BY PROGRAM, IN A SANDBOX (cutbox-rows.mjs): the forced cells as the released guide's own fill.sh prints them over the translation df61dab6b50bff54… (all of the seat's roots in one cut). By AI agents, Wed Nov 11 2026. No macro, syntax, notation, axiom, sorry.
-/
import Derived.Test.YtcncacllaonplaaChecked
import GoSem.Claim
import GoSem.ClaimJoined
import GoSem.ClaimMapViews
import Derived.JoinedTies
import Derived.KernelRfl
namespace Go.Proofs.Ytcncacllaonplaa
/- THE CELL 'sum', in the pinned program and in every row, IS THE sha256 OF THE DUMP (.gsa) THAT YtcncacllaonplaaProg.lean LOADS. Nothing in Lean hashes anything: it is a label: what it is worth is what the hold of that sum in a sandbox is worth. -/
noncomputable def Try.pinned : Pinned := { name := "ytcncacllaonplaa", sum := "df61dab6b50bff54353ffc170d3347990839ff991e7c609fc41787e8c769e37a", checked := Try.checked }
namespace Rows
def none {H : Type} : Left H := { results := [], args := [] }

/-- 'parlourlaw22.JobsSides': WHATEVER THE INPUT: true; the input reads as it did. -/
def jobsSidesSpec : ChangeSpec := { name := "jobsSides", fn := fun _ => fun
  | [d] => { results := [.lit (.bool true)], args := [d] }
  | _ => none }
def jobsSidesRow : OpenClaim := { program := "ytcncacllaonplaa", sum := "df61dab6b50bff54353ffc170d3347990839ff991e7c609fc41787e8c769e37a", func := "parlour/parlourlaw22.JobsSides", spec := "jobsSides", unfollowed := true, recurses := true, apart := false }
def JobsSidesSaid : Prop := jobsSidesRow.holds Try.pinned (OpenSpec.ofChange jobsSidesSpec)

/-- ITS FALSE NEIGHBOUR: 'it returns false'. Refute it at one input. -/
def jobsSidesWrong : ChangeSpec := { name := "jobsSides", fn := fun _ => fun
  | [d] => { results := [.lit (.bool false)], args := [d] }
  | _ => none }
def JobsSidesWrongFalsely : Prop := jobsSidesRow.holds Try.pinned (OpenSpec.ofChange jobsSidesWrong)

/-- 'parlourlaw22.JobsAccess': WHATEVER THE INPUT: true; the input reads as it did. -/
def jobsAccessSpec : ChangeSpec := { name := "jobsAccess", fn := fun _ => fun
  | [d] => { results := [.lit (.bool true)], args := [d] }
  | _ => none }
def jobsAccessRow : OpenClaim := { program := "ytcncacllaonplaa", sum := "df61dab6b50bff54353ffc170d3347990839ff991e7c609fc41787e8c769e37a", func := "parlour/parlourlaw22.JobsAccess", spec := "jobsAccess", unfollowed := true, recurses := true, apart := false }
def JobsAccessSaid : Prop := jobsAccessRow.holds Try.pinned (OpenSpec.ofChange jobsAccessSpec)

/-- ITS FALSE NEIGHBOUR: 'it returns false'. Refute it at one input. -/
def jobsAccessWrong : ChangeSpec := { name := "jobsAccess", fn := fun _ => fun
  | [d] => { results := [.lit (.bool false)], args := [d] }
  | _ => none }
def JobsAccessWrongFalsely : Prop := jobsAccessRow.holds Try.pinned (OpenSpec.ofChange jobsAccessWrong)

/-- 'parlourlaw22.JobsGoes': WHATEVER THE INPUT: true; the input reads as it did. -/
def jobsGoesSpec : ChangeSpec := { name := "jobsGoes", fn := fun _ => fun
  | [d] => { results := [.lit (.bool true)], args := [d] }
  | _ => none }
def jobsGoesRow : OpenClaim := { program := "ytcncacllaonplaa", sum := "df61dab6b50bff54353ffc170d3347990839ff991e7c609fc41787e8c769e37a", func := "parlour/parlourlaw22.JobsGoes", spec := "jobsGoes", unfollowed := true, recurses := true, apart := false }
def JobsGoesSaid : Prop := jobsGoesRow.holds Try.pinned (OpenSpec.ofChange jobsGoesSpec)

/-- ITS FALSE NEIGHBOUR: 'it returns false'. Refute it at one input. -/
def jobsGoesWrong : ChangeSpec := { name := "jobsGoes", fn := fun _ => fun
  | [d] => { results := [.lit (.bool false)], args := [d] }
  | _ => none }
def JobsGoesWrongFalsely : Prop := jobsGoesRow.holds Try.pinned (OpenSpec.ofChange jobsGoesWrong)

/- THE SECOND FORM. 'bulk': how many values and letters a reading holds, each counted each time it is reached (what is shared counts as often as it is met; a slice's spare places count too). A statement '..UptoSaid' is the law's where the arguments, and the package variables that the reading takes, are together of bulk at most 1048576: NARROWER than '..Said'. Prove '..Said' where nothing that the law and all that it calls make is longer than what came in: it says more and counts as full. Else prove '..UptoSaid'. A law counts once. -/
mutual
def uptoBulk {H : Type} : DataW H → Nat
  | .lit (.string bytes) => bytes.length + 1
  | .lit _ => 1
  | .nil => 1
  | .ptr d => uptoBulk d + 1
  | .slice elems spare => uptoBulkAll elems + uptoBulkAll spare + 1
  | .agg parts => uptoBulkAll parts + 1
  | .iface _ d => uptoBulk d + 1
  | .map entries => uptoBulkEntries entries + 1
  | .held _ => 1
def uptoBulkAll {H : Type} : List (DataW H) → Nat
  | [] => 0
  | d :: r => uptoBulk d + uptoBulkAll r
def uptoBulkEntries {H : Type} : List (Lit × DataW H) → Nat
  | [] => 0
  | x :: r => uptoBulkEntry x + uptoBulkEntries r
def uptoBulkEntry {H : Type} : Lit × DataW H → Nat
  | (.string bytes, d) => bytes.length + uptoBulk d + 1
  | (_, d) => uptoBulk d + 1
 end
def uptoSmall : (H : Type) → List (DataW H) → Bool := fun _ ds => decide (uptoBulkAll ds ≤ 1048576)
def OpenSpec.upto (s : _root_.Go.ChangeSpec) : _root_.Go.OpenSpec := { _root_.Go.OpenSpec.ofChange s with cond := some uptoSmall }

/-- 'parlourlaw22.JobsSides', WHERE WHAT IT READS IS OF BULK AT MOST 1048576: true; the input reads as it did. -/
def jobsSidesUptoRow : OpenClaim := { program := "ytcncacllaonplaa", sum := "df61dab6b50bff54353ffc170d3347990839ff991e7c609fc41787e8c769e37a", func := "parlour/parlourlaw22.JobsSides", spec := "jobsSides", unfollowed := true, recurses := true, apart := false, narrowed := true }
def JobsSidesUptoSaid : Prop := jobsSidesUptoRow.holds Try.pinned (OpenSpec.upto jobsSidesSpec)

/-- 'parlourlaw22.JobsAccess', WHERE WHAT IT READS IS OF BULK AT MOST 1048576: true; the input reads as it did. -/
def jobsAccessUptoRow : OpenClaim := { program := "ytcncacllaonplaa", sum := "df61dab6b50bff54353ffc170d3347990839ff991e7c609fc41787e8c769e37a", func := "parlour/parlourlaw22.JobsAccess", spec := "jobsAccess", unfollowed := true, recurses := true, apart := false, narrowed := true }
def JobsAccessUptoSaid : Prop := jobsAccessUptoRow.holds Try.pinned (OpenSpec.upto jobsAccessSpec)

/-- 'parlourlaw22.JobsGoes', WHERE WHAT IT READS IS OF BULK AT MOST 1048576: true; the input reads as it did. -/
def jobsGoesUptoRow : OpenClaim := { program := "ytcncacllaonplaa", sum := "df61dab6b50bff54353ffc170d3347990839ff991e7c609fc41787e8c769e37a", func := "parlour/parlourlaw22.JobsGoes", spec := "jobsGoes", unfollowed := true, recurses := true, apart := false, narrowed := true }
def JobsGoesUptoSaid : Prop := jobsGoesUptoRow.holds Try.pinned (OpenSpec.upto jobsGoesSpec)

end Rows
end Go.Proofs.Ytcncacllaonplaa
