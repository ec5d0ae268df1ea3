/-
  No cell of these rows narrows 'for every input' (looked for: loops, veiled, ifaces, maps, wideKeys, modest, calm, conditions, laid).
  DERIVED. THE GIVEN ROWS OF THIS SEAT. 5 by the template 'for every input the law returns true; each argument reads behind the call as it read before'; 0 by the template 'total and deterministic' (their statements: YtkonebkblgemkaaGreatTotals.lean).
  GIVEN WITH THE SEED: the statements are not yours to turn. If you find one false, say at which input.
  Laid BY PROGRAM, IN A SANDBOX (cutbox-rows.mjs): the forced cells as the released guide's own fill.sh prints them over the translation 44c0523dbdd02627… (all of the seat's roots in one cut). By AI agents, Wed Nov 11 2026. No macro, syntax, notation, axiom, sorry.
-/
import Derived.Test.YtkonebkblgemkaaGreatChecked
import GoSem.Claim
import GoSem.ClaimJoined
import GoSem.ClaimMapViews
import Derived.JoinedTies
import Derived.KernelRfl
namespace Go.Proofs.YtkonebkblgemkaaGreat
/- THE CELL 'sum', in the pinned program and in every row, IS THE sha256 OF THE DUMP (.gsa) THAT YtkonebkblgemkaaGreatProg.lean LOADS. Nothing in Lean hashes anything: it is a label: what it is worth is what the hold of that sum in a sandbox is worth. -/
noncomputable def Tryz.pinned : Pinned := { name := "ytkonebkblgemkaagreat", sum := "44c0523dbdd02627db508ba4f1ed0d1013371394942908f3f36cd30668d02eb4", checked := Tryz.checked }
namespace Rows
def none {H : Type} : Left H := { results := [], args := [] }

/-- 'fullinglaw10.TermReference': WHATEVER THE INPUT: true; the input reads as it did. -/
def termReferenceSpec : ChangeSpec := { name := "termReference", fn := fun _ => fun
  | [d1, d2, d3, d4, d5, d6] => { results := [.lit (.bool true)], args := [d1, d2, d3, d4, d5, d6] }
  | _ => none }
def termReferenceRow : OpenClaim := { program := "ytkonebkblgemkaagreat", sum := "44c0523dbdd02627db508ba4f1ed0d1013371394942908f3f36cd30668d02eb4", func := "fulling/fullinglaw10.TermReference", spec := "termReference", recurses := true, apart := false }
def TermReferenceSaid : Prop := termReferenceRow.holds Tryz.pinned (OpenSpec.ofChange termReferenceSpec)

/-- ITS FALSE NEIGHBOUR: 'it returns false'. Refute it at one input. -/
def termReferenceWrong : ChangeSpec := { name := "termReference", fn := fun _ => fun
  | [d1, d2, d3, d4, d5, d6] => { results := [.lit (.bool false)], args := [d1, d2, d3, d4, d5, d6] }
  | _ => none }
def TermReferenceWrongFalsely : Prop := termReferenceRow.holds Tryz.pinned (OpenSpec.ofChange termReferenceWrong)

/-- 'fullinglaw14.AnalysisInductive': WHATEVER THE INPUT: true; the input reads as it did. -/
def analysisInductiveSpec : ChangeSpec := { name := "analysisInductive", fn := fun _ => fun
  | [d1, d2] => { results := [.lit (.bool true)], args := [d1, d2] }
  | _ => none }
def analysisInductiveRow : OpenClaim := { program := "ytkonebkblgemkaagreat", sum := "44c0523dbdd02627db508ba4f1ed0d1013371394942908f3f36cd30668d02eb4", func := "fulling/fullinglaw14.AnalysisInductive", spec := "analysisInductive", unfollowed := true, recurses := true, apart := false }
def AnalysisInductiveSaid : Prop := analysisInductiveRow.holds Tryz.pinned (OpenSpec.ofChange analysisInductiveSpec)

/-- ITS FALSE NEIGHBOUR: 'it returns false'. Refute it at one input. -/
def analysisInductiveWrong : ChangeSpec := { name := "analysisInductive", fn := fun _ => fun
  | [d1, d2] => { results := [.lit (.bool false)], args := [d1, d2] }
  | _ => none }
def AnalysisInductiveWrongFalsely : Prop := analysisInductiveRow.holds Tryz.pinned (OpenSpec.ofChange analysisInductiveWrong)

/-- 'fullinglaw14.AnalysisRejects': WHATEVER THE INPUT: true; the input reads as it did. -/
def analysisRejectsSpec : ChangeSpec := { name := "analysisRejects", fn := fun _ => fun
  | [d1, d2, d3] => { results := [.lit (.bool true)], args := [d1, d2, d3] }
  | _ => none }
def analysisRejectsRow : OpenClaim := { program := "ytkonebkblgemkaagreat", sum := "44c0523dbdd02627db508ba4f1ed0d1013371394942908f3f36cd30668d02eb4", func := "fulling/fullinglaw14.AnalysisRejects", spec := "analysisRejects", unfollowed := true, recurses := true, apart := false }
def AnalysisRejectsSaid : Prop := analysisRejectsRow.holds Tryz.pinned (OpenSpec.ofChange analysisRejectsSpec)

/-- ITS FALSE NEIGHBOUR: 'it returns false'. Refute it at one input. -/
def analysisRejectsWrong : ChangeSpec := { name := "analysisRejects", fn := fun _ => fun
  | [d1, d2, d3] => { results := [.lit (.bool false)], args := [d1, d2, d3] }
  | _ => none }
def AnalysisRejectsWrongFalsely : Prop := analysisRejectsRow.holds Tryz.pinned (OpenSpec.ofChange analysisRejectsWrong)

/-- 'fullinglaw14.AnalysisReference': WHATEVER THE INPUT: true; the input reads as it did. -/
def analysisReferenceSpec : ChangeSpec := { name := "analysisReference", fn := fun _ => fun
  | [d1, d2, d3, d4, d5] => { results := [.lit (.bool true)], args := [d1, d2, d3, d4, d5] }
  | _ => none }
def analysisReferenceRow : OpenClaim := { program := "ytkonebkblgemkaagreat", sum := "44c0523dbdd02627db508ba4f1ed0d1013371394942908f3f36cd30668d02eb4", func := "fulling/fullinglaw14.AnalysisReference", spec := "analysisReference", unfollowed := true, recurses := true, apart := false }
def AnalysisReferenceSaid : Prop := analysisReferenceRow.holds Tryz.pinned (OpenSpec.ofChange analysisReferenceSpec)

/-- ITS FALSE NEIGHBOUR: 'it returns false'. Refute it at one input. -/
def analysisReferenceWrong : ChangeSpec := { name := "analysisReference", fn := fun _ => fun
  | [d1, d2, d3, d4, d5] => { results := [.lit (.bool false)], args := [d1, d2, d3, d4, d5] }
  | _ => none }
def AnalysisReferenceWrongFalsely : Prop := analysisReferenceRow.holds Tryz.pinned (OpenSpec.ofChange analysisReferenceWrong)

/-- 'fullinglaw14.AnalysisNonempty': WHATEVER THE INPUT: true; the input reads as it did. -/
def analysisNonemptySpec : ChangeSpec := { name := "analysisNonempty", fn := fun _ => fun
  | [d1, d2, d3, d4] => { results := [.lit (.bool true)], args := [d1, d2, d3, d4] }
  | _ => none }
def analysisNonemptyRow : OpenClaim := { program := "ytkonebkblgemkaagreat", sum := "44c0523dbdd02627db508ba4f1ed0d1013371394942908f3f36cd30668d02eb4", func := "fulling/fullinglaw14.AnalysisNonempty", spec := "analysisNonempty", unfollowed := true, recurses := true, apart := false }
def AnalysisNonemptySaid : Prop := analysisNonemptyRow.holds Tryz.pinned (OpenSpec.ofChange analysisNonemptySpec)

/-- ITS FALSE NEIGHBOUR: 'it returns false'. Refute it at one input. -/
def analysisNonemptyWrong : ChangeSpec := { name := "analysisNonempty", fn := fun _ => fun
  | [d1, d2, d3, d4] => { results := [.lit (.bool false)], args := [d1, d2, d3, d4] }
  | _ => none }
def AnalysisNonemptyWrongFalsely : Prop := analysisNonemptyRow.holds Tryz.pinned (OpenSpec.ofChange analysisNonemptyWrong)

/- THE SECOND FORM. 'bulk': how many values and letters a reading holds, each counted each time it is reached (what is shared counts as often as it is met; a slice's spare places count too). A statement '..UptoSaid' is the law's where the arguments, and the package variables that the reading takes, are together of bulk at most 1048576: NARROWER than '..Said'. Prove '..Said' where nothing that the law and all that it calls make is longer than what came in: it says more and counts as full. Else prove '..UptoSaid'. A law counts once. -/
mutual
def uptoBulk {H : Type} : DataW H → Nat
  | .lit (.string bytes) => bytes.length + 1
  | .lit _ => 1
  | .nil => 1
  | .ptr d => uptoBulk d + 1
  | .slice elems spare => uptoBulkAll elems + uptoBulkAll spare + 1
  | .agg parts => uptoBulkAll parts + 1
  | .iface _ d => uptoBulk d + 1
  | .map entries => uptoBulkEntries entries + 1
  | .held _ => 1
def uptoBulkAll {H : Type} : List (DataW H) → Nat
  | [] => 0
  | d :: r => uptoBulk d + uptoBulkAll r
def uptoBulkEntries {H : Type} : List (Lit × DataW H) → Nat
  | [] => 0
  | x :: r => uptoBulkEntry x + uptoBulkEntries r
def uptoBulkEntry {H : Type} : Lit × DataW H → Nat
  | (.string bytes, d) => bytes.length + uptoBulk d + 1
  | (_, d) => uptoBulk d + 1
 end
def uptoSmall : (H : Type) → List (DataW H) → Bool := fun _ ds => decide (uptoBulkAll ds ≤ 1048576)
def OpenSpec.upto (s : _root_.Go.ChangeSpec) : _root_.Go.OpenSpec := { _root_.Go.OpenSpec.ofChange s with cond := some uptoSmall }

/-- 'fullinglaw10.TermReference', WHERE WHAT IT READS IS OF BULK AT MOST 1048576: true; the input reads as it did. -/
def termReferenceUptoRow : OpenClaim := { program := "ytkonebkblgemkaagreat", sum := "44c0523dbdd02627db508ba4f1ed0d1013371394942908f3f36cd30668d02eb4", func := "fulling/fullinglaw10.TermReference", spec := "termReference", recurses := true, apart := false, narrowed := true }
def TermReferenceUptoSaid : Prop := termReferenceUptoRow.holds Tryz.pinned (OpenSpec.upto termReferenceSpec)

/-- 'fullinglaw14.AnalysisInductive', WHERE WHAT IT READS IS OF BULK AT MOST 1048576: true; the input reads as it did. -/
def analysisInductiveUptoRow : OpenClaim := { program := "ytkonebkblgemkaagreat", sum := "44c0523dbdd02627db508ba4f1ed0d1013371394942908f3f36cd30668d02eb4", func := "fulling/fullinglaw14.AnalysisInductive", spec := "analysisInductive", unfollowed := true, recurses := true, apart := false, narrowed := true }
def AnalysisInductiveUptoSaid : Prop := analysisInductiveUptoRow.holds Tryz.pinned (OpenSpec.upto analysisInductiveSpec)

/-- 'fullinglaw14.AnalysisRejects', WHERE WHAT IT READS IS OF BULK AT MOST 1048576: true; the input reads as it did. -/
def analysisRejectsUptoRow : OpenClaim := { program := "ytkonebkblgemkaagreat", sum := "44c0523dbdd02627db508ba4f1ed0d1013371394942908f3f36cd30668d02eb4", func := "fulling/fullinglaw14.AnalysisRejects", spec := "analysisRejects", unfollowed := true, recurses := true, apart := false, narrowed := true }
def AnalysisRejectsUptoSaid : Prop := analysisRejectsUptoRow.holds Tryz.pinned (OpenSpec.upto analysisRejectsSpec)

/-- 'fullinglaw14.AnalysisReference', WHERE WHAT IT READS IS OF BULK AT MOST 1048576: true; the input reads as it did. -/
def analysisReferenceUptoRow : OpenClaim := { program := "ytkonebkblgemkaagreat", sum := "44c0523dbdd02627db508ba4f1ed0d1013371394942908f3f36cd30668d02eb4", func := "fulling/fullinglaw14.AnalysisReference", spec := "analysisReference", unfollowed := true, recurses := true, apart := false, narrowed := true }
def AnalysisReferenceUptoSaid : Prop := analysisReferenceUptoRow.holds Tryz.pinned (OpenSpec.upto analysisReferenceSpec)

/-- 'fullinglaw14.AnalysisNonempty', WHERE WHAT IT READS IS OF BULK AT MOST 1048576: true; the input reads as it did. -/
def analysisNonemptyUptoRow : OpenClaim := { program := "ytkonebkblgemkaagreat", sum := "44c0523dbdd02627db508ba4f1ed0d1013371394942908f3f36cd30668d02eb4", func := "fulling/fullinglaw14.AnalysisNonempty", spec := "analysisNonempty", unfollowed := true, recurses := true, apart := false, narrowed := true }
def AnalysisNonemptyUptoSaid : Prop := analysisNonemptyUptoRow.holds Tryz.pinned (OpenSpec.upto analysisNonemptySpec)

end Rows
end Go.Proofs.YtkonebkblgemkaaGreat
