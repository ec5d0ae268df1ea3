/-
  No cell of these rows narrows 'for every input' (looked for: loops, veiled, ifaces, maps, wideKeys, modest, calm, conditions, laid).
  DERIVED. THE GIVEN ROWS OF THIS SEAT. 5 by the template 'for every input the law returns true; each argument reads behind the call as it read before'; 0 by the template 'total and deterministic' (their statements: YtmmbpfmlnclmaaaTotals.lean).
  GIVEN WITH THE SEED: the statements are not yours to turn. If you find one false, say at which input.
  Laid BY PROGRAM, IN A SANDBOX (cutbox-rows.mjs): the forced cells as the released guide's own fill.sh prints them over the translation 7808484bbf4f8391… (all of the seat's roots in one cut). By AI agents, Wed Nov 11 2026. No macro, syntax, notation, axiom, sorry.
-/
import Derived.Test.YtmmbpfmlnclmaaaChecked
import GoSem.Claim
import GoSem.ClaimJoined
import GoSem.ClaimMapViews
import Derived.JoinedTies
import Derived.KernelRfl
namespace Go.Proofs.Ytmmbpfmlnclmaaa
/- THE CELL 'sum', in the pinned program and in every row, IS THE sha256 OF THE DUMP (.gsa) THAT YtmmbpfmlnclmaaaProg.lean LOADS. Nothing in Lean hashes anything: it is a label: what it is worth is what the hold of that sum in a sandbox is worth. -/
noncomputable def Try.pinned : Pinned := { name := "ytmmbpfmlnclmaaa", sum := "7808484bbf4f83910cc41f361cb08a30f15a5f544a6bfd9f46ae5728c48a4f42", checked := Try.checked }
namespace Rows
def none {H : Type} : Left H := { results := [], args := [] }

/-- 'fullinglaw10.TermExamples': WHATEVER THE INPUT: true; the input reads as it did. -/
def termExamplesSpec : ChangeSpec := { name := "termExamples", fn := fun _ => fun
  | [] => { results := [.lit (.bool true)], args := [] }
  | _ => none }
def termExamplesRow : OpenClaim := { program := "ytmmbpfmlnclmaaa", sum := "7808484bbf4f83910cc41f361cb08a30f15a5f544a6bfd9f46ae5728c48a4f42", func := "fulling/fullinglaw10.TermExamples", spec := "termExamples", recurses := true, apart := false }
def TermExamplesSaid : Prop := termExamplesRow.holds Try.pinned (OpenSpec.ofChange termExamplesSpec)

/-- ITS FALSE NEIGHBOUR: 'it returns false'. Refute it at one input. -/
def termExamplesWrong : ChangeSpec := { name := "termExamples", fn := fun _ => fun
  | [] => { results := [.lit (.bool false)], args := [] }
  | _ => none }
def TermExamplesWrongFalsely : Prop := termExamplesRow.holds Try.pinned (OpenSpec.ofChange termExamplesWrong)

/-- 'fullinglaw10.TermRoundTrip': WHATEVER THE INPUT: true; the input reads as it did. -/
def termRoundTripSpec : ChangeSpec := { name := "termRoundTrip", fn := fun _ => fun
  | [d1, d2] => { results := [.lit (.bool true)], args := [d1, d2] }
  | _ => none }
def termRoundTripRow : OpenClaim := { program := "ytmmbpfmlnclmaaa", sum := "7808484bbf4f83910cc41f361cb08a30f15a5f544a6bfd9f46ae5728c48a4f42", func := "fulling/fullinglaw10.TermRoundTrip", spec := "termRoundTrip", recurses := true, apart := false }
def TermRoundTripSaid : Prop := termRoundTripRow.holds Try.pinned (OpenSpec.ofChange termRoundTripSpec)

/-- ITS FALSE NEIGHBOUR: 'it returns false'. Refute it at one input. -/
def termRoundTripWrong : ChangeSpec := { name := "termRoundTrip", fn := fun _ => fun
  | [d1, d2] => { results := [.lit (.bool false)], args := [d1, d2] }
  | _ => none }
def TermRoundTripWrongFalsely : Prop := termRoundTripRow.holds Try.pinned (OpenSpec.ofChange termRoundTripWrong)

/-- 'fullinglaw10.TermNames': WHATEVER THE INPUT: true; the input reads as it did. -/
def termNamesSpec : ChangeSpec := { name := "termNames", fn := fun _ => fun
  | [d1, d2] => { results := [.lit (.bool true)], args := [d1, d2] }
  | _ => none }
def termNamesRow : OpenClaim := { program := "ytmmbpfmlnclmaaa", sum := "7808484bbf4f83910cc41f361cb08a30f15a5f544a6bfd9f46ae5728c48a4f42", func := "fulling/fullinglaw10.TermNames", spec := "termNames", recurses := true, apart := false }
def TermNamesSaid : Prop := termNamesRow.holds Try.pinned (OpenSpec.ofChange termNamesSpec)

/-- ITS FALSE NEIGHBOUR: 'it returns false'. Refute it at one input. -/
def termNamesWrong : ChangeSpec := { name := "termNames", fn := fun _ => fun
  | [d1, d2] => { results := [.lit (.bool false)], args := [d1, d2] }
  | _ => none }
def TermNamesWrongFalsely : Prop := termNamesRow.holds Try.pinned (OpenSpec.ofChange termNamesWrong)

/-- 'fullinglaw10.TermDistinctNodes': WHATEVER THE INPUT: true; the input reads as it did. -/
def termDistinctNodesSpec : ChangeSpec := { name := "termDistinctNodes", fn := fun _ => fun
  | [d] => { results := [.lit (.bool true)], args := [d] }
  | _ => none }
def termDistinctNodesRow : OpenClaim := { program := "ytmmbpfmlnclmaaa", sum := "7808484bbf4f83910cc41f361cb08a30f15a5f544a6bfd9f46ae5728c48a4f42", func := "fulling/fullinglaw10.TermDistinctNodes", spec := "termDistinctNodes", recurses := true, apart := false }
def TermDistinctNodesSaid : Prop := termDistinctNodesRow.holds Try.pinned (OpenSpec.ofChange termDistinctNodesSpec)

/-- ITS FALSE NEIGHBOUR: 'it returns false'. Refute it at one input. -/
def termDistinctNodesWrong : ChangeSpec := { name := "termDistinctNodes", fn := fun _ => fun
  | [d] => { results := [.lit (.bool false)], args := [d] }
  | _ => none }
def TermDistinctNodesWrongFalsely : Prop := termDistinctNodesRow.holds Try.pinned (OpenSpec.ofChange termDistinctNodesWrong)

/-- 'fullinglaw10.TermLoops': WHATEVER THE INPUT: true; the input reads as it did. -/
def termLoopsSpec : ChangeSpec := { name := "termLoops", fn := fun _ => fun
  | [d1, d2, d3] => { results := [.lit (.bool true)], args := [d1, d2, d3] }
  | _ => none }
def termLoopsRow : OpenClaim := { program := "ytmmbpfmlnclmaaa", sum := "7808484bbf4f83910cc41f361cb08a30f15a5f544a6bfd9f46ae5728c48a4f42", func := "fulling/fullinglaw10.TermLoops", spec := "termLoops", recurses := true, apart := false }
def TermLoopsSaid : Prop := termLoopsRow.holds Try.pinned (OpenSpec.ofChange termLoopsSpec)

/-- ITS FALSE NEIGHBOUR: 'it returns false'. Refute it at one input. -/
def termLoopsWrong : ChangeSpec := { name := "termLoops", fn := fun _ => fun
  | [d1, d2, d3] => { results := [.lit (.bool false)], args := [d1, d2, d3] }
  | _ => none }
def TermLoopsWrongFalsely : Prop := termLoopsRow.holds Try.pinned (OpenSpec.ofChange termLoopsWrong)

/- THE SECOND FORM. 'bulk': how many values and letters a reading holds, each counted each time it is reached (what is shared counts as often as it is met; a slice's spare places count too). A statement '..UptoSaid' is the law's where the arguments, and the package variables that the reading takes, are together of bulk at most 1048576: NARROWER than '..Said'. Prove '..Said' where nothing that the law and all that it calls make is longer than what came in: it says more and counts as full. Else prove '..UptoSaid'. A law counts once. -/
mutual
def uptoBulk {H : Type} : DataW H → Nat
  | .lit (.string bytes) => bytes.length + 1
  | .lit _ => 1
  | .nil => 1
  | .ptr d => uptoBulk d + 1
  | .slice elems spare => uptoBulkAll elems + uptoBulkAll spare + 1
  | .agg parts => uptoBulkAll parts + 1
  | .iface _ d => uptoBulk d + 1
  | .map entries => uptoBulkEntries entries + 1
  | .held _ => 1
def uptoBulkAll {H : Type} : List (DataW H) → Nat
  | [] => 0
  | d :: r => uptoBulk d + uptoBulkAll r
def uptoBulkEntries {H : Type} : List (Lit × DataW H) → Nat
  | [] => 0
  | x :: r => uptoBulkEntry x + uptoBulkEntries r
def uptoBulkEntry {H : Type} : Lit × DataW H → Nat
  | (.string bytes, d) => bytes.length + uptoBulk d + 1
  | (_, d) => uptoBulk d + 1
 end
def uptoSmall : (H : Type) → List (DataW H) → Bool := fun _ ds => decide (uptoBulkAll ds ≤ 1048576)
def OpenSpec.upto (s : _root_.Go.ChangeSpec) : _root_.Go.OpenSpec := { _root_.Go.OpenSpec.ofChange s with cond := some uptoSmall }

/-- 'fullinglaw10.TermExamples', WHERE WHAT IT READS IS OF BULK AT MOST 1048576: true; the input reads as it did. -/
def termExamplesUptoRow : OpenClaim := { program := "ytmmbpfmlnclmaaa", sum := "7808484bbf4f83910cc41f361cb08a30f15a5f544a6bfd9f46ae5728c48a4f42", func := "fulling/fullinglaw10.TermExamples", spec := "termExamples", recurses := true, apart := false, narrowed := true }
def TermExamplesUptoSaid : Prop := termExamplesUptoRow.holds Try.pinned (OpenSpec.upto termExamplesSpec)

/-- 'fullinglaw10.TermRoundTrip', WHERE WHAT IT READS IS OF BULK AT MOST 1048576: true; the input reads as it did. -/
def termRoundTripUptoRow : OpenClaim := { program := "ytmmbpfmlnclmaaa", sum := "7808484bbf4f83910cc41f361cb08a30f15a5f544a6bfd9f46ae5728c48a4f42", func := "fulling/fullinglaw10.TermRoundTrip", spec := "termRoundTrip", recurses := true, apart := false, narrowed := true }
def TermRoundTripUptoSaid : Prop := termRoundTripUptoRow.holds Try.pinned (OpenSpec.upto termRoundTripSpec)

/-- 'fullinglaw10.TermNames', WHERE WHAT IT READS IS OF BULK AT MOST 1048576: true; the input reads as it did. -/
def termNamesUptoRow : OpenClaim := { program := "ytmmbpfmlnclmaaa", sum := "7808484bbf4f83910cc41f361cb08a30f15a5f544a6bfd9f46ae5728c48a4f42", func := "fulling/fullinglaw10.TermNames", spec := "termNames", recurses := true, apart := false, narrowed := true }
def TermNamesUptoSaid : Prop := termNamesUptoRow.holds Try.pinned (OpenSpec.upto termNamesSpec)

/-- 'fullinglaw10.TermDistinctNodes', WHERE WHAT IT READS IS OF BULK AT MOST 1048576: true; the input reads as it did. -/
def termDistinctNodesUptoRow : OpenClaim := { program := "ytmmbpfmlnclmaaa", sum := "7808484bbf4f83910cc41f361cb08a30f15a5f544a6bfd9f46ae5728c48a4f42", func := "fulling/fullinglaw10.TermDistinctNodes", spec := "termDistinctNodes", recurses := true, apart := false, narrowed := true }
def TermDistinctNodesUptoSaid : Prop := termDistinctNodesUptoRow.holds Try.pinned (OpenSpec.upto termDistinctNodesSpec)

/-- 'fullinglaw10.TermLoops', WHERE WHAT IT READS IS OF BULK AT MOST 1048576: true; the input reads as it did. -/
def termLoopsUptoRow : OpenClaim := { program := "ytmmbpfmlnclmaaa", sum := "7808484bbf4f83910cc41f361cb08a30f15a5f544a6bfd9f46ae5728c48a4f42", func := "fulling/fullinglaw10.TermLoops", spec := "termLoops", recurses := true, apart := false, narrowed := true }
def TermLoopsUptoSaid : Prop := termLoopsUptoRow.holds Try.pinned (OpenSpec.upto termLoopsSpec)

end Rows
end Go.Proofs.Ytmmbpfmlnclmaaa
