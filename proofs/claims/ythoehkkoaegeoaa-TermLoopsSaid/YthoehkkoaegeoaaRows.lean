/-
  No cell of these rows narrows 'for every input' (looked for: loops, veiled, ifaces, maps, wideKeys, modest, calm, conditions, laid).
  DERIVED. THE GIVEN ROWS OF THIS SEAT. 3 by the template 'for every input the law returns true; each argument reads behind the call as it read before'; 0 by the template 'total and deterministic' (their statements: YthoehkkoaegeoaaTotals.lean).
  GIVEN WITH THE SEED: the statements are not yours to turn. If you find one false, say at which input.
  Laid BY PROGRAM, IN A SANDBOX (cutbox-rows.mjs): the forced cells as the released guide's own fill.sh prints them over the translation 03bc5f78182bace2… (all of the seat's roots in one cut). By AI agents, Wed Nov 11 2026. No macro, syntax, notation, axiom, sorry.
-/
import Derived.Test.YthoehkkoaegeoaaChecked
import GoSem.Claim
import GoSem.ClaimJoined
import GoSem.ClaimMapViews
import Derived.JoinedTies
import Derived.KernelRfl
namespace Go.Proofs.Ythoehkkoaegeoaa
/- THE CELL 'sum', in the pinned program and in every row, IS THE sha256 OF THE DUMP (.gsa) THAT YthoehkkoaegeoaaProg.lean LOADS. Nothing in Lean hashes anything: it is a label: what it is worth is what the hold of that sum in a sandbox is worth. -/
noncomputable def Try.pinned : Pinned := { name := "ythoehkkoaegeoaa", sum := "03bc5f78182bace285b1bf28f70d187591c451b017aba5d894144187e42f66ca", checked := Try.checked }
namespace Rows
def none {H : Type} : Left H := { results := [], args := [] }

/-- 'fullinglaw10.TermDistinctNodes': WHATEVER THE INPUT: true; the input reads as it did. -/
def termDistinctNodesSpec : ChangeSpec := { name := "termDistinctNodes", fn := fun _ => fun
  | [d] => { results := [.lit (.bool true)], args := [d] }
  | _ => none }
def termDistinctNodesRow : OpenClaim := { program := "ythoehkkoaegeoaa", sum := "03bc5f78182bace285b1bf28f70d187591c451b017aba5d894144187e42f66ca", func := "fulling/fullinglaw10.TermDistinctNodes", spec := "termDistinctNodes", recurses := true, apart := false }
def TermDistinctNodesSaid : Prop := termDistinctNodesRow.holds Try.pinned (OpenSpec.ofChange termDistinctNodesSpec)

/-- ITS FALSE NEIGHBOUR: 'it returns false'. Refute it at one input. -/
def termDistinctNodesWrong : ChangeSpec := { name := "termDistinctNodes", fn := fun _ => fun
  | [d] => { results := [.lit (.bool false)], args := [d] }
  | _ => none }
def TermDistinctNodesWrongFalsely : Prop := termDistinctNodesRow.holds Try.pinned (OpenSpec.ofChange termDistinctNodesWrong)

/-- 'fullinglaw10.TermRoundTrip': WHATEVER THE INPUT: true; the input reads as it did. -/
def termRoundTripSpec : ChangeSpec := { name := "termRoundTrip", fn := fun _ => fun
  | [d1, d2] => { results := [.lit (.bool true)], args := [d1, d2] }
  | _ => none }
def termRoundTripRow : OpenClaim := { program := "ythoehkkoaegeoaa", sum := "03bc5f78182bace285b1bf28f70d187591c451b017aba5d894144187e42f66ca", func := "fulling/fullinglaw10.TermRoundTrip", spec := "termRoundTrip", recurses := true, apart := false }
def TermRoundTripSaid : Prop := termRoundTripRow.holds Try.pinned (OpenSpec.ofChange termRoundTripSpec)

/-- ITS FALSE NEIGHBOUR: 'it returns false'. Refute it at one input. -/
def termRoundTripWrong : ChangeSpec := { name := "termRoundTrip", fn := fun _ => fun
  | [d1, d2] => { results := [.lit (.bool false)], args := [d1, d2] }
  | _ => none }
def TermRoundTripWrongFalsely : Prop := termRoundTripRow.holds Try.pinned (OpenSpec.ofChange termRoundTripWrong)

/-- 'fullinglaw10.TermLoops': WHATEVER THE INPUT: true; the input reads as it did. -/
def termLoopsSpec : ChangeSpec := { name := "termLoops", fn := fun _ => fun
  | [d1, d2, d3] => { results := [.lit (.bool true)], args := [d1, d2, d3] }
  | _ => none }
def termLoopsRow : OpenClaim := { program := "ythoehkkoaegeoaa", sum := "03bc5f78182bace285b1bf28f70d187591c451b017aba5d894144187e42f66ca", func := "fulling/fullinglaw10.TermLoops", spec := "termLoops", recurses := true, apart := false }
def TermLoopsSaid : Prop := termLoopsRow.holds Try.pinned (OpenSpec.ofChange termLoopsSpec)

/-- ITS FALSE NEIGHBOUR: 'it returns false'. Refute it at one input. -/
def termLoopsWrong : ChangeSpec := { name := "termLoops", fn := fun _ => fun
  | [d1, d2, d3] => { results := [.lit (.bool false)], args := [d1, d2, d3] }
  | _ => none }
def TermLoopsWrongFalsely : Prop := termLoopsRow.holds Try.pinned (OpenSpec.ofChange termLoopsWrong)

/- THE SECOND FORM. 'bulk': how many values and letters a reading holds, each counted each time it is reached (what is shared counts as often as it is met; a slice's spare places count too). A statement '..UptoSaid' is the law's where the arguments, and the package variables that the reading takes, are together of bulk at most 1048576: NARROWER than '..Said'. Prove '..Said' where nothing that the law and all that it calls make is longer than what came in: it says more and counts as full. Else prove '..UptoSaid'. A law counts once. -/
mutual
def uptoBulk {H : Type} : DataW H → Nat
  | .lit (.string bytes) => bytes.length + 1
  | .lit _ => 1
  | .nil => 1
  | .ptr d => uptoBulk d + 1
  | .slice elems spare => uptoBulkAll elems + uptoBulkAll spare + 1
  | .agg parts => uptoBulkAll parts + 1
  | .iface _ d => uptoBulk d + 1
  | .map entries => uptoBulkEntries entries + 1
  | .held _ => 1
def uptoBulkAll {H : Type} : List (DataW H) → Nat
  | [] => 0
  | d :: r => uptoBulk d + uptoBulkAll r
def uptoBulkEntries {H : Type} : List (Lit × DataW H) → Nat
  | [] => 0
  | x :: r => uptoBulkEntry x + uptoBulkEntries r
def uptoBulkEntry {H : Type} : Lit × DataW H → Nat
  | (.string bytes, d) => bytes.length + uptoBulk d + 1
  | (_, d) => uptoBulk d + 1
 end
def uptoSmall : (H : Type) → List (DataW H) → Bool := fun _ ds => decide (uptoBulkAll ds ≤ 1048576)
def OpenSpec.upto (s : _root_.Go.ChangeSpec) : _root_.Go.OpenSpec := { _root_.Go.OpenSpec.ofChange s with cond := some uptoSmall }

/-- 'fullinglaw10.TermDistinctNodes', WHERE WHAT IT READS IS OF BULK AT MOST 1048576: true; the input reads as it did. -/
def termDistinctNodesUptoRow : OpenClaim := { program := "ythoehkkoaegeoaa", sum := "03bc5f78182bace285b1bf28f70d187591c451b017aba5d894144187e42f66ca", func := "fulling/fullinglaw10.TermDistinctNodes", spec := "termDistinctNodes", recurses := true, apart := false, narrowed := true }
def TermDistinctNodesUptoSaid : Prop := termDistinctNodesUptoRow.holds Try.pinned (OpenSpec.upto termDistinctNodesSpec)

/-- 'fullinglaw10.TermRoundTrip', WHERE WHAT IT READS IS OF BULK AT MOST 1048576: true; the input reads as it did. -/
def termRoundTripUptoRow : OpenClaim := { program := "ythoehkkoaegeoaa", sum := "03bc5f78182bace285b1bf28f70d187591c451b017aba5d894144187e42f66ca", func := "fulling/fullinglaw10.TermRoundTrip", spec := "termRoundTrip", recurses := true, apart := false, narrowed := true }
def TermRoundTripUptoSaid : Prop := termRoundTripUptoRow.holds Try.pinned (OpenSpec.upto termRoundTripSpec)

/-- 'fullinglaw10.TermLoops', WHERE WHAT IT READS IS OF BULK AT MOST 1048576: true; the input reads as it did. -/
def termLoopsUptoRow : OpenClaim := { program := "ythoehkkoaegeoaa", sum := "03bc5f78182bace285b1bf28f70d187591c451b017aba5d894144187e42f66ca", func := "fulling/fullinglaw10.TermLoops", spec := "termLoops", recurses := true, apart := false, narrowed := true }
def TermLoopsUptoSaid : Prop := termLoopsUptoRow.holds Try.pinned (OpenSpec.upto termLoopsSpec)

end Rows
end Go.Proofs.Ythoehkkoaegeoaa
