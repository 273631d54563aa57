/-
  No cell of these rows narrows 'for every input' (looked for: loops, veiled, ifaces, maps, wideKeys, modest, calm, conditions, laid).
  DERIVED. THE GIVEN ROWS OF THIS SEAT. 4 by the template 'for every input the law returns true; each argument reads behind the call as it read before'; 0 by the template 'total and deterministic' (their statements: YtilmkghopeoipaaTotals.lean).
  GIVEN WITH THE SEED: the statements are not yours to turn. If you find one false, say at which input.
  Laid BY PROGRAM, IN A SANDBOX (cutbox-rows.mjs): the forced cells as the released guide's own fill.sh prints them over the translation 336ca0137b121906… (all of the seat's roots in one cut). By AI agents, Wed Nov 11 2026. No macro, syntax, notation, axiom, sorry.
-/
import Derived.Test.YtilmkghopeoipaaChecked
import GoSem.Claim
import GoSem.ClaimJoined
import GoSem.ClaimMapViews
import Derived.JoinedTies
import Derived.KernelRfl
namespace Go.Proofs.Ytilmkghopeoipaa
/- THE CELL 'sum', in the pinned program and in every row, IS THE sha256 OF THE DUMP (.gsa) THAT YtilmkghopeoipaaProg.lean LOADS. Nothing in Lean hashes anything: it is a label: what it is worth is what the hold of that sum in a sandbox is worth. -/
noncomputable def Try.pinned : Pinned := { name := "ytilmkghopeoipaa", sum := "336ca0137b1219068ecad8ebf18ed41b797d776fbe8e22d24a743ee55625bdfc", checked := Try.checked }
namespace Rows
def none {H : Type} : Left H := { results := [], args := [] }

/-- 'parlourlaw10.EditorWords': WHATEVER THE INPUT: true; the input reads as it did. -/
def editorWordsSpec : ChangeSpec := { name := "editorWords", fn := fun _ => fun
  | [d1, d2] => { results := [.lit (.bool true)], args := [d1, d2] }
  | _ => none }
def editorWordsRow : OpenClaim := { program := "ytilmkghopeoipaa", sum := "336ca0137b1219068ecad8ebf18ed41b797d776fbe8e22d24a743ee55625bdfc", func := "parlour/parlourlaw10.EditorWords", spec := "editorWords", unfollowed := true, recurses := true, apart := false }
def EditorWordsSaid : Prop := editorWordsRow.holds Try.pinned (OpenSpec.ofChange editorWordsSpec)

/-- ITS FALSE NEIGHBOUR: 'it returns false'. Refute it at one input. -/
def editorWordsWrong : ChangeSpec := { name := "editorWords", fn := fun _ => fun
  | [d1, d2] => { results := [.lit (.bool false)], args := [d1, d2] }
  | _ => none }
def EditorWordsWrongFalsely : Prop := editorWordsRow.holds Try.pinned (OpenSpec.ofChange editorWordsWrong)

/-- 'parlourlaw10.EditorErases': WHATEVER THE INPUT: true; the input reads as it did. -/
def editorErasesSpec : ChangeSpec := { name := "editorErases", fn := fun _ => fun
  | [d1, d2] => { results := [.lit (.bool true)], args := [d1, d2] }
  | _ => none }
def editorErasesRow : OpenClaim := { program := "ytilmkghopeoipaa", sum := "336ca0137b1219068ecad8ebf18ed41b797d776fbe8e22d24a743ee55625bdfc", func := "parlour/parlourlaw10.EditorErases", spec := "editorErases", apart := false }
def EditorErasesSaid : Prop := editorErasesRow.holds Try.pinned (OpenSpec.ofChange editorErasesSpec)

/-- ITS FALSE NEIGHBOUR: 'it returns false'. Refute it at one input. -/
def editorErasesWrong : ChangeSpec := { name := "editorErases", fn := fun _ => fun
  | [d1, d2] => { results := [.lit (.bool false)], args := [d1, d2] }
  | _ => none }
def EditorErasesWrongFalsely : Prop := editorErasesRow.holds Try.pinned (OpenSpec.ofChange editorErasesWrong)

/-- 'parlourlaw10.EditorText': WHATEVER THE INPUT: true; the input reads as it did. -/
def editorTextSpec : ChangeSpec := { name := "editorText", fn := fun _ => fun
  | [d1, d2] => { results := [.lit (.bool true)], args := [d1, d2] }
  | _ => none }
def editorTextRow : OpenClaim := { program := "ytilmkghopeoipaa", sum := "336ca0137b1219068ecad8ebf18ed41b797d776fbe8e22d24a743ee55625bdfc", func := "parlour/parlourlaw10.EditorText", spec := "editorText", apart := false }
def EditorTextSaid : Prop := editorTextRow.holds Try.pinned (OpenSpec.ofChange editorTextSpec)

/-- ITS FALSE NEIGHBOUR: 'it returns false'. Refute it at one input. -/
def editorTextWrong : ChangeSpec := { name := "editorText", fn := fun _ => fun
  | [d1, d2] => { results := [.lit (.bool false)], args := [d1, d2] }
  | _ => none }
def EditorTextWrongFalsely : Prop := editorTextRow.holds Try.pinned (OpenSpec.ofChange editorTextWrong)

/-- 'parlourlaw10.EditorIs': WHATEVER THE INPUT: true; the input reads as it did. -/
def editorIsSpec : ChangeSpec := { name := "editorIs", fn := fun _ => fun
  | [d1, d2, d3] => { results := [.lit (.bool true)], args := [d1, d2, d3] }
  | _ => none }
def editorIsRow : OpenClaim := { program := "ytilmkghopeoipaa", sum := "336ca0137b1219068ecad8ebf18ed41b797d776fbe8e22d24a743ee55625bdfc", func := "parlour/parlourlaw10.EditorIs", spec := "editorIs", recurses := true, apart := false }
def EditorIsSaid : Prop := editorIsRow.holds Try.pinned (OpenSpec.ofChange editorIsSpec)

/-- ITS FALSE NEIGHBOUR: 'it returns false'. Refute it at one input. -/
def editorIsWrong : ChangeSpec := { name := "editorIs", fn := fun _ => fun
  | [d1, d2, d3] => { results := [.lit (.bool false)], args := [d1, d2, d3] }
  | _ => none }
def EditorIsWrongFalsely : Prop := editorIsRow.holds Try.pinned (OpenSpec.ofChange editorIsWrong)

/- THE SECOND FORM. 'bulk': how many values and letters a reading holds, each counted each time it is reached (what is shared counts as often as it is met; a slice's spare places count too). A statement '..UptoSaid' is the law's where the arguments, and the package variables that the reading takes, are together of bulk at most 1048576: NARROWER than '..Said'. Prove '..Said' where nothing that the law and all that it calls make is longer than what came in: it says more and counts as full. Else prove '..UptoSaid'. A law counts once. -/
mutual
def uptoBulk {H : Type} : DataW H → Nat
  | .lit (.string bytes) => bytes.length + 1
  | .lit _ => 1
  | .nil => 1
  | .ptr d => uptoBulk d + 1
  | .slice elems spare => uptoBulkAll elems + uptoBulkAll spare + 1
  | .agg parts => uptoBulkAll parts + 1
  | .iface _ d => uptoBulk d + 1
  | .map entries => uptoBulkEntries entries + 1
  | .held _ => 1
def uptoBulkAll {H : Type} : List (DataW H) → Nat
  | [] => 0
  | d :: r => uptoBulk d + uptoBulkAll r
def uptoBulkEntries {H : Type} : List (Lit × DataW H) → Nat
  | [] => 0
  | x :: r => uptoBulkEntry x + uptoBulkEntries r
def uptoBulkEntry {H : Type} : Lit × DataW H → Nat
  | (.string bytes, d) => bytes.length + uptoBulk d + 1
  | (_, d) => uptoBulk d + 1
 end
def uptoSmall : (H : Type) → List (DataW H) → Bool := fun _ ds => decide (uptoBulkAll ds ≤ 1048576)
def OpenSpec.upto (s : _root_.Go.ChangeSpec) : _root_.Go.OpenSpec := { _root_.Go.OpenSpec.ofChange s with cond := some uptoSmall }

/-- 'parlourlaw10.EditorWords', WHERE WHAT IT READS IS OF BULK AT MOST 1048576: true; the input reads as it did. -/
def editorWordsUptoRow : OpenClaim := { program := "ytilmkghopeoipaa", sum := "336ca0137b1219068ecad8ebf18ed41b797d776fbe8e22d24a743ee55625bdfc", func := "parlour/parlourlaw10.EditorWords", spec := "editorWords", unfollowed := true, recurses := true, apart := false, narrowed := true }
def EditorWordsUptoSaid : Prop := editorWordsUptoRow.holds Try.pinned (OpenSpec.upto editorWordsSpec)

/-- 'parlourlaw10.EditorErases', WHERE WHAT IT READS IS OF BULK AT MOST 1048576: true; the input reads as it did. -/
def editorErasesUptoRow : OpenClaim := { program := "ytilmkghopeoipaa", sum := "336ca0137b1219068ecad8ebf18ed41b797d776fbe8e22d24a743ee55625bdfc", func := "parlour/parlourlaw10.EditorErases", spec := "editorErases", apart := false, narrowed := true }
def EditorErasesUptoSaid : Prop := editorErasesUptoRow.holds Try.pinned (OpenSpec.upto editorErasesSpec)

/-- 'parlourlaw10.EditorText', WHERE WHAT IT READS IS OF BULK AT MOST 1048576: true; the input reads as it did. -/
def editorTextUptoRow : OpenClaim := { program := "ytilmkghopeoipaa", sum := "336ca0137b1219068ecad8ebf18ed41b797d776fbe8e22d24a743ee55625bdfc", func := "parlour/parlourlaw10.EditorText", spec := "editorText", apart := false, narrowed := true }
def EditorTextUptoSaid : Prop := editorTextUptoRow.holds Try.pinned (OpenSpec.upto editorTextSpec)

/-- 'parlourlaw10.EditorIs', WHERE WHAT IT READS IS OF BULK AT MOST 1048576: true; the input reads as it did. -/
def editorIsUptoRow : OpenClaim := { program := "ytilmkghopeoipaa", sum := "336ca0137b1219068ecad8ebf18ed41b797d776fbe8e22d24a743ee55625bdfc", func := "parlour/parlourlaw10.EditorIs", spec := "editorIs", recurses := true, apart := false, narrowed := true }
def EditorIsUptoSaid : Prop := editorIsUptoRow.holds Try.pinned (OpenSpec.upto editorIsSpec)

end Rows
end Go.Proofs.Ytilmkghopeoipaa
