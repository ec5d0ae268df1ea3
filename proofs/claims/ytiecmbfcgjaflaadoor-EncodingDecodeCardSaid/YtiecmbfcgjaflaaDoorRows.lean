/-
  NARROWER THAN 'FOR EVERY INPUT', by the rows' own cells (each row's printed sentence says how): EncodingExamples: laid · EncodingEncode: laid · EncodingUnique: laid · EncodingFlip: laid · EncodingDecode: laid · EncodingRoundTrip: laid · EncodingValid: laid.
  DERIVED. THE GIVEN ROWS OF THIS SEAT. 7 by the template 'for every input the law returns true; each argument reads behind the call as it read before'; 0 by the template 'total and deterministic' (their statements: YtiecmbfcgjaflaaDoorTotals.lean).
  GIVEN WITH THE SEED: the statements are not yours to turn. If you find one false, say at which input.
  Laid BY PROGRAM, IN A SANDBOX (cutbox-rows.mjs): the forced cells as the released guide's own fill.sh prints them over the translation 507ed5afa0db0cfa… (all of the seat's roots in one cut). By AI agents, Wed Nov 11 2026. No macro, syntax, notation, axiom, sorry.
-/
import Derived.Test.YtiecmbfcgjaflaaDoorChecked
import GoSem.Claim
import GoSem.ClaimJoined
import GoSem.ClaimMapViews
import Derived.JoinedTies
import Derived.KernelRfl
namespace Go.Proofs.YtiecmbfcgjaflaaDoor
/- THE CELL 'sum', in the pinned program and in every row, IS THE sha256 OF THE DUMP (.gsa) THAT YtiecmbfcgjaflaaDoorProg.lean LOADS. Nothing in Lean hashes anything: it is a label: what it is worth is what the hold of that sum in a sandbox is worth. -/
noncomputable def Tryd.pinned : Pinned := { name := "ytiecmbfcgjaflaadoor", sum := "507ed5afa0db0cfa75bbdc761c6e37eae5e4ca57918802f3aa9c27c888d100c5", checked := Tryd.checked }
namespace Rows
def none {H : Type} : Left H := { results := [], args := [] }

/- WHAT THE LISTED PACKAGE-LEVEL VARIABLES READ AS WHEN THE CALL BEGINS. Each datum BY PROGRAM (the guide's laid-datum.mjs) off the statement by which the dump's own 'gosem.cut.vars' lays the variable. In a bare row this is a premise. The card (YtiecmbfcgjaflaaDoorCards.lean) ties it to the program's text. -/
def laid_fulling_machine_table {H : Type} : DataW H := .slice [.agg [.lit (.string [110, 111, 112]), .lit (.int .i64 1), .lit (.bool false), .lit (.bool false), .lit (.bool false), .lit (.bool false), .lit (.int .i64 1)], .agg [.lit (.string [114, 101, 116]), .lit (.int .i64 1), .lit (.bool false), .lit (.bool false), .lit (.bool false), .lit (.bool false), .lit (.int .i64 1)], .agg [.lit (.string [116, 105, 99, 107]), .lit (.int .i64 1), .lit (.bool false), .lit (.bool false), .lit (.bool false), .lit (.bool false), .lit (.int .i64 1)], .agg [.lit (.string [116, 114, 97, 112]), .lit (.int .i64 8), .lit (.bool false), .lit (.bool false), .lit (.bool false), .lit (.bool true), .lit (.int .i64 1)], .agg [.lit (.string [106, 109, 112]), .lit (.int .i64 8), .lit (.bool false), .lit (.bool false), .lit (.bool false), .lit (.bool false), .lit (.int .i64 1)], .agg [.lit (.string [99, 97, 108, 108]), .lit (.int .i64 5), .lit (.bool false), .lit (.bool false), .lit (.bool false), .lit (.bool false), .lit (.int .i64 1)], .agg [.lit (.string [106, 122]), .lit (.int .i64 5), .lit (.bool true), .lit (.bool false), .lit (.bool false), .lit (.bool false), .lit (.int .i64 1)], .agg [.lit (.string [106, 110, 122]), .lit (.int .i64 5), .lit (.bool true), .lit (.bool false), .lit (.bool false), .lit (.bool false), .lit (.int .i64 1)], .agg [.lit (.string [111, 117, 116]), .lit (.int .i64 2), .lit (.bool true), .lit (.bool false), .lit (.bool false), .lit (.bool false), .lit (.int .i64 1)], .agg [.lit (.string [109, 111, 118]), .lit (.int .i64 3), .lit (.bool false), .lit (.bool true), .lit (.bool true), .lit (.bool false), .lit (.int .i64 1)], .agg [.lit (.string [99, 109, 111, 118, 122]), .lit (.int .i64 4), .lit (.bool true), .lit (.bool true), .lit (.bool true), .lit (.bool false), .lit (.int .i64 1)], .agg [.lit (.string [99, 109, 111, 118, 110, 122]), .lit (.int .i64 4), .lit (.bool true), .lit (.bool true), .lit (.bool true), .lit (.bool false), .lit (.int .i64 1)], .agg [.lit (.string [108, 100, 105]), .lit (.int .i64 5), .lit (.bool false), .lit (.bool true), .lit (.bool false), .lit (.bool false), .lit (.int .i64 1)], .agg [.lit (.string [108, 100, 99]), .lit (.int .i64 6), .lit (.bool false), .lit (.bool true), .lit (.bool false), .lit (.bool false), .lit (.int .i64 3)], .agg [.lit (.string [110, 101, 103]), .lit (.int .i64 2), .lit (.bool true), .lit (.bool true), .lit (.bool false), .lit (.bool false), .lit (.int .i64 1)], .agg [.lit (.string [110, 111, 116]), .lit (.int .i64 2), .lit (.bool true), .lit (.bool true), .lit (.bool false), .lit (.bool false), .lit (.int .i64 1)], .agg [.lit (.string [97, 100, 100]), .lit (.int .i64 3), .lit (.bool true), .lit (.bool true), .lit (.bool true), .lit (.bool false), .lit (.int .i64 1)], .agg [.lit (.string [115, 117, 98]), .lit (.int .i64 3), .lit (.bool true), .lit (.bool true), .lit (.bool true), .lit (.bool false), .lit (.int .i64 1)], .agg [.lit (.string [109, 117, 108]), .lit (.int .i64 3), .lit (.bool true), .lit (.bool true), .lit (.bool true), .lit (.bool false), .lit (.int .i64 1)], .agg [.lit (.string [100, 105, 118]), .lit (.int .i64 3), .lit (.bool true), .lit (.bool true), .lit (.bool true), .lit (.bool true), .lit (.int .i64 1)], .agg [.lit (.string [114, 101, 109]), .lit (.int .i64 3), .lit (.bool true), .lit (.bool true), .lit (.bool true), .lit (.bool true), .lit (.int .i64 1)], .agg [.lit (.string [97, 110, 100]), .lit (.int .i64 3), .lit (.bool true), .lit (.bool true), .lit (.bool true), .lit (.bool false), .lit (.int .i64 1)], .agg [.lit (.string [111, 114]), .lit (.int .i64 3), .lit (.bool true), .lit (.bool true), .lit (.bool true), .lit (.bool false), .lit (.int .i64 1)], .agg [.lit (.string [120, 111, 114]), .lit (.int .i64 3), .lit (.bool true), .lit (.bool true), .lit (.bool true), .lit (.bool false), .lit (.int .i64 1)], .agg [.lit (.string [115, 104, 108]), .lit (.int .i64 3), .lit (.bool true), .lit (.bool true), .lit (.bool true), .lit (.bool false), .lit (.int .i64 1)], .agg [.lit (.string [115, 104, 114]), .lit (.int .i64 3), .lit (.bool true), .lit (.bool true), .lit (.bool true), .lit (.bool false), .lit (.int .i64 1)], .agg [.lit (.string [115, 97, 114]), .lit (.int .i64 3), .lit (.bool true), .lit (.bool true), .lit (.bool true), .lit (.bool false), .lit (.int .i64 1)], .agg [.lit (.string [101, 113]), .lit (.int .i64 3), .lit (.bool true), .lit (.bool true), .lit (.bool true), .lit (.bool false), .lit (.int .i64 1)], .agg [.lit (.string [110, 101]), .lit (.int .i64 3), .lit (.bool true), .lit (.bool true), .lit (.bool true), .lit (.bool false), .lit (.int .i64 1)], .agg [.lit (.string [108, 116]), .lit (.int .i64 3), .lit (.bool true), .lit (.bool true), .lit (.bool true), .lit (.bool false), .lit (.int .i64 1)], .agg [.lit (.string [108, 101]), .lit (.int .i64 3), .lit (.bool true), .lit (.bool true), .lit (.bool true), .lit (.bool false), .lit (.int .i64 1)], .agg [.lit (.string [108, 116, 117]), .lit (.int .i64 3), .lit (.bool true), .lit (.bool true), .lit (.bool true), .lit (.bool false), .lit (.int .i64 1)], .agg [.lit (.string [97, 100, 100, 105]), .lit (.int .i64 5), .lit (.bool true), .lit (.bool true), .lit (.bool false), .lit (.bool false), .lit (.int .i64 1)], .agg [.lit (.string [108, 100]), .lit (.int .i64 7), .lit (.bool false), .lit (.bool true), .lit (.bool true), .lit (.bool true), .lit (.int .i64 1)], .agg [.lit (.string [115, 116]), .lit (.int .i64 7), .lit (.bool true), .lit (.bool false), .lit (.bool true), .lit (.bool true), .lit (.int .i64 1)], .agg [.lit (.string [108, 100, 115]), .lit (.int .i64 5), .lit (.bool false), .lit (.bool true), .lit (.bool false), .lit (.bool false), .lit (.int .i64 1)], .agg [.lit (.string [115, 116, 115]), .lit (.int .i64 5), .lit (.bool true), .lit (.bool false), .lit (.bool false), .lit (.bool false), .lit (.int .i64 1)]] []

/-- 'fullinglaw30.EncodingExamples': WHATEVER THE INPUT: true; the input reads as it did. -/
def encodingExamplesSpec : ChangeSpec := { name := "encodingExamples", fn := fun _ => fun
  | [] => { results := [.lit (.bool true)], args := [] }
  | _ => none }
def encodingExamplesRow : OpenClaim := { program := "ytiecmbfcgjaflaadoor", sum := "507ed5afa0db0cfa75bbdc761c6e37eae5e4ca57918802f3aa9c27c888d100c5", func := "fulling/fullinglaw30.EncodingExamples", spec := "encodingExamples", named := ["fulling/machine.table"], apart := false, laid := [("fulling/machine.table", laid_fulling_machine_table)] }
def EncodingExamplesSaid : Prop := encodingExamplesRow.holds Tryd.pinned (OpenSpec.ofChange encodingExamplesSpec)

/-- ITS FALSE NEIGHBOUR: 'it returns false'. Refute it at one input. -/
def encodingExamplesWrong : ChangeSpec := { name := "encodingExamples", fn := fun _ => fun
  | [] => { results := [.lit (.bool false)], args := [] }
  | _ => none }
def EncodingExamplesWrongFalsely : Prop := encodingExamplesRow.holds Tryd.pinned (OpenSpec.ofChange encodingExamplesWrong)

/-- 'fullinglaw30.EncodingEncode': WHATEVER THE INPUT: true; the input reads as it did. -/
def encodingEncodeSpec : ChangeSpec := { name := "encodingEncode", fn := fun _ => fun
  | [d1, d2] => { results := [.lit (.bool true)], args := [d1, d2] }
  | _ => none }
def encodingEncodeRow : OpenClaim := { program := "ytiecmbfcgjaflaadoor", sum := "507ed5afa0db0cfa75bbdc761c6e37eae5e4ca57918802f3aa9c27c888d100c5", func := "fulling/fullinglaw30.EncodingEncode", spec := "encodingEncode", named := ["fulling/machine.table"], apart := false, laid := [("fulling/machine.table", laid_fulling_machine_table)] }
def EncodingEncodeSaid : Prop := encodingEncodeRow.holds Tryd.pinned (OpenSpec.ofChange encodingEncodeSpec)

/-- ITS FALSE NEIGHBOUR: 'it returns false'. Refute it at one input. -/
def encodingEncodeWrong : ChangeSpec := { name := "encodingEncode", fn := fun _ => fun
  | [d1, d2] => { results := [.lit (.bool false)], args := [d1, d2] }
  | _ => none }
def EncodingEncodeWrongFalsely : Prop := encodingEncodeRow.holds Tryd.pinned (OpenSpec.ofChange encodingEncodeWrong)

/-- 'fullinglaw30.EncodingUnique': WHATEVER THE INPUT: true; the input reads as it did. -/
def encodingUniqueSpec : ChangeSpec := { name := "encodingUnique", fn := fun _ => fun
  | [d1, d2, d3, d4] => { results := [.lit (.bool true)], args := [d1, d2, d3, d4] }
  | _ => none }
def encodingUniqueRow : OpenClaim := { program := "ytiecmbfcgjaflaadoor", sum := "507ed5afa0db0cfa75bbdc761c6e37eae5e4ca57918802f3aa9c27c888d100c5", func := "fulling/fullinglaw30.EncodingUnique", spec := "encodingUnique", named := ["fulling/machine.table"], apart := false, laid := [("fulling/machine.table", laid_fulling_machine_table)] }
def EncodingUniqueSaid : Prop := encodingUniqueRow.holds Tryd.pinned (OpenSpec.ofChange encodingUniqueSpec)

/-- ITS FALSE NEIGHBOUR: 'it returns false'. Refute it at one input. -/
def encodingUniqueWrong : ChangeSpec := { name := "encodingUnique", fn := fun _ => fun
  | [d1, d2, d3, d4] => { results := [.lit (.bool false)], args := [d1, d2, d3, d4] }
  | _ => none }
def EncodingUniqueWrongFalsely : Prop := encodingUniqueRow.holds Tryd.pinned (OpenSpec.ofChange encodingUniqueWrong)

/-- 'fullinglaw30.EncodingFlip': WHATEVER THE INPUT: true; the input reads as it did. -/
def encodingFlipSpec : ChangeSpec := { name := "encodingFlip", fn := fun _ => fun
  | [d1, d2, d3] => { results := [.lit (.bool true)], args := [d1, d2, d3] }
  | _ => none }
def encodingFlipRow : OpenClaim := { program := "ytiecmbfcgjaflaadoor", sum := "507ed5afa0db0cfa75bbdc761c6e37eae5e4ca57918802f3aa9c27c888d100c5", func := "fulling/fullinglaw30.EncodingFlip", spec := "encodingFlip", named := ["fulling/machine.table"], apart := false, laid := [("fulling/machine.table", laid_fulling_machine_table)] }
def EncodingFlipSaid : Prop := encodingFlipRow.holds Tryd.pinned (OpenSpec.ofChange encodingFlipSpec)

/-- ITS FALSE NEIGHBOUR: 'it returns false'. Refute it at one input. -/
def encodingFlipWrong : ChangeSpec := { name := "encodingFlip", fn := fun _ => fun
  | [d1, d2, d3] => { results := [.lit (.bool false)], args := [d1, d2, d3] }
  | _ => none }
def EncodingFlipWrongFalsely : Prop := encodingFlipRow.holds Tryd.pinned (OpenSpec.ofChange encodingFlipWrong)

/-- 'fullinglaw30.EncodingDecode': WHATEVER THE INPUT: true; the input reads as it did. -/
def encodingDecodeSpec : ChangeSpec := { name := "encodingDecode", fn := fun _ => fun
  | [d1, d2, d3, d4] => { results := [.lit (.bool true)], args := [d1, d2, d3, d4] }
  | _ => none }
def encodingDecodeRow : OpenClaim := { program := "ytiecmbfcgjaflaadoor", sum := "507ed5afa0db0cfa75bbdc761c6e37eae5e4ca57918802f3aa9c27c888d100c5", func := "fulling/fullinglaw30.EncodingDecode", spec := "encodingDecode", named := ["fulling/machine.table"], apart := false, laid := [("fulling/machine.table", laid_fulling_machine_table)] }
def EncodingDecodeSaid : Prop := encodingDecodeRow.holds Tryd.pinned (OpenSpec.ofChange encodingDecodeSpec)

/-- ITS FALSE NEIGHBOUR: 'it returns false'. Refute it at one input. -/
def encodingDecodeWrong : ChangeSpec := { name := "encodingDecode", fn := fun _ => fun
  | [d1, d2, d3, d4] => { results := [.lit (.bool false)], args := [d1, d2, d3, d4] }
  | _ => none }
def EncodingDecodeWrongFalsely : Prop := encodingDecodeRow.holds Tryd.pinned (OpenSpec.ofChange encodingDecodeWrong)

/-- 'fullinglaw30.EncodingRoundTrip': WHATEVER THE INPUT: true; the input reads as it did. -/
def encodingRoundTripSpec : ChangeSpec := { name := "encodingRoundTrip", fn := fun _ => fun
  | [d] => { results := [.lit (.bool true)], args := [d] }
  | _ => none }
def encodingRoundTripRow : OpenClaim := { program := "ytiecmbfcgjaflaadoor", sum := "507ed5afa0db0cfa75bbdc761c6e37eae5e4ca57918802f3aa9c27c888d100c5", func := "fulling/fullinglaw30.EncodingRoundTrip", spec := "encodingRoundTrip", named := ["fulling/machine.table"], apart := false, laid := [("fulling/machine.table", laid_fulling_machine_table)] }
def EncodingRoundTripSaid : Prop := encodingRoundTripRow.holds Tryd.pinned (OpenSpec.ofChange encodingRoundTripSpec)

/-- ITS FALSE NEIGHBOUR: 'it returns false'. Refute it at one input. -/
def encodingRoundTripWrong : ChangeSpec := { name := "encodingRoundTrip", fn := fun _ => fun
  | [d] => { results := [.lit (.bool false)], args := [d] }
  | _ => none }
def EncodingRoundTripWrongFalsely : Prop := encodingRoundTripRow.holds Tryd.pinned (OpenSpec.ofChange encodingRoundTripWrong)

/-- 'fullinglaw30.EncodingValid': WHATEVER THE INPUT: true; the input reads as it did. -/
def encodingValidSpec : ChangeSpec := { name := "encodingValid", fn := fun _ => fun
  | [d1, d2, d3, d4, d5] => { results := [.lit (.bool true)], args := [d1, d2, d3, d4, d5] }
  | _ => none }
def encodingValidRow : OpenClaim := { program := "ytiecmbfcgjaflaadoor", sum := "507ed5afa0db0cfa75bbdc761c6e37eae5e4ca57918802f3aa9c27c888d100c5", func := "fulling/fullinglaw30.EncodingValid", spec := "encodingValid", unfollowed := true, recurses := true, named := ["fulling/machine.table"], apart := false, laid := [("fulling/machine.table", laid_fulling_machine_table)] }
def EncodingValidSaid : Prop := encodingValidRow.holds Tryd.pinned (OpenSpec.ofChange encodingValidSpec)

/-- ITS FALSE NEIGHBOUR: 'it returns false'. Refute it at one input. -/
def encodingValidWrong : ChangeSpec := { name := "encodingValid", fn := fun _ => fun
  | [d1, d2, d3, d4, d5] => { results := [.lit (.bool false)], args := [d1, d2, d3, d4, d5] }
  | _ => none }
def EncodingValidWrongFalsely : Prop := encodingValidRow.holds Tryd.pinned (OpenSpec.ofChange encodingValidWrong)

/- THE SECOND FORM. 'bulk': how many values and letters a reading holds, each counted each time it is reached (what is shared counts as often as it is met; a slice's spare places count too). A statement '..UptoSaid' is the law's where the arguments, and the package variables that the reading takes, are together of bulk at most 1048576: NARROWER than '..Said'. Prove '..Said' where nothing that the law and all that it calls make is longer than what came in: it says more and counts as full. Else prove '..UptoSaid'. A law counts once. -/
mutual
def uptoBulk {H : Type} : DataW H → Nat
  | .lit (.string bytes) => bytes.length + 1
  | .lit _ => 1
  | .nil => 1
  | .ptr d => uptoBulk d + 1
  | .slice elems spare => uptoBulkAll elems + uptoBulkAll spare + 1
  | .agg parts => uptoBulkAll parts + 1
  | .iface _ d => uptoBulk d + 1
  | .map entries => uptoBulkEntries entries + 1
  | .held _ => 1
def uptoBulkAll {H : Type} : List (DataW H) → Nat
  | [] => 0
  | d :: r => uptoBulk d + uptoBulkAll r
def uptoBulkEntries {H : Type} : List (Lit × DataW H) → Nat
  | [] => 0
  | x :: r => uptoBulkEntry x + uptoBulkEntries r
def uptoBulkEntry {H : Type} : Lit × DataW H → Nat
  | (.string bytes, d) => bytes.length + uptoBulk d + 1
  | (_, d) => uptoBulk d + 1
 end
def uptoSmall : (H : Type) → List (DataW H) → Bool := fun _ ds => decide (uptoBulkAll ds ≤ 1048576)
def OpenSpec.upto (s : _root_.Go.ChangeSpec) : _root_.Go.OpenSpec := { _root_.Go.OpenSpec.ofChange s with cond := some uptoSmall }

/-- 'fullinglaw30.EncodingExamples', WHERE WHAT IT READS IS OF BULK AT MOST 1048576: true; the input reads as it did. -/
def encodingExamplesUptoRow : OpenClaim := { program := "ytiecmbfcgjaflaadoor", sum := "507ed5afa0db0cfa75bbdc761c6e37eae5e4ca57918802f3aa9c27c888d100c5", func := "fulling/fullinglaw30.EncodingExamples", spec := "encodingExamples", named := ["fulling/machine.table"], apart := false, laid := [("fulling/machine.table", laid_fulling_machine_table)], narrowed := true }
def EncodingExamplesUptoSaid : Prop := encodingExamplesUptoRow.holds Tryd.pinned (OpenSpec.upto encodingExamplesSpec)

/-- 'fullinglaw30.EncodingEncode', WHERE WHAT IT READS IS OF BULK AT MOST 1048576: true; the input reads as it did. -/
def encodingEncodeUptoRow : OpenClaim := { program := "ytiecmbfcgjaflaadoor", sum := "507ed5afa0db0cfa75bbdc761c6e37eae5e4ca57918802f3aa9c27c888d100c5", func := "fulling/fullinglaw30.EncodingEncode", spec := "encodingEncode", named := ["fulling/machine.table"], apart := false, laid := [("fulling/machine.table", laid_fulling_machine_table)], narrowed := true }
def EncodingEncodeUptoSaid : Prop := encodingEncodeUptoRow.holds Tryd.pinned (OpenSpec.upto encodingEncodeSpec)

/-- 'fullinglaw30.EncodingUnique', WHERE WHAT IT READS IS OF BULK AT MOST 1048576: true; the input reads as it did. -/
def encodingUniqueUptoRow : OpenClaim := { program := "ytiecmbfcgjaflaadoor", sum := "507ed5afa0db0cfa75bbdc761c6e37eae5e4ca57918802f3aa9c27c888d100c5", func := "fulling/fullinglaw30.EncodingUnique", spec := "encodingUnique", named := ["fulling/machine.table"], apart := false, laid := [("fulling/machine.table", laid_fulling_machine_table)], narrowed := true }
def EncodingUniqueUptoSaid : Prop := encodingUniqueUptoRow.holds Tryd.pinned (OpenSpec.upto encodingUniqueSpec)

/-- 'fullinglaw30.EncodingFlip', WHERE WHAT IT READS IS OF BULK AT MOST 1048576: true; the input reads as it did. -/
def encodingFlipUptoRow : OpenClaim := { program := "ytiecmbfcgjaflaadoor", sum := "507ed5afa0db0cfa75bbdc761c6e37eae5e4ca57918802f3aa9c27c888d100c5", func := "fulling/fullinglaw30.EncodingFlip", spec := "encodingFlip", named := ["fulling/machine.table"], apart := false, laid := [("fulling/machine.table", laid_fulling_machine_table)], narrowed := true }
def EncodingFlipUptoSaid : Prop := encodingFlipUptoRow.holds Tryd.pinned (OpenSpec.upto encodingFlipSpec)

/-- 'fullinglaw30.EncodingDecode', WHERE WHAT IT READS IS OF BULK AT MOST 1048576: true; the input reads as it did. -/
def encodingDecodeUptoRow : OpenClaim := { program := "ytiecmbfcgjaflaadoor", sum := "507ed5afa0db0cfa75bbdc761c6e37eae5e4ca57918802f3aa9c27c888d100c5", func := "fulling/fullinglaw30.EncodingDecode", spec := "encodingDecode", named := ["fulling/machine.table"], apart := false, laid := [("fulling/machine.table", laid_fulling_machine_table)], narrowed := true }
def EncodingDecodeUptoSaid : Prop := encodingDecodeUptoRow.holds Tryd.pinned (OpenSpec.upto encodingDecodeSpec)

/-- 'fullinglaw30.EncodingRoundTrip', WHERE WHAT IT READS IS OF BULK AT MOST 1048576: true; the input reads as it did. -/
def encodingRoundTripUptoRow : OpenClaim := { program := "ytiecmbfcgjaflaadoor", sum := "507ed5afa0db0cfa75bbdc761c6e37eae5e4ca57918802f3aa9c27c888d100c5", func := "fulling/fullinglaw30.EncodingRoundTrip", spec := "encodingRoundTrip", named := ["fulling/machine.table"], apart := false, laid := [("fulling/machine.table", laid_fulling_machine_table)], narrowed := true }
def EncodingRoundTripUptoSaid : Prop := encodingRoundTripUptoRow.holds Tryd.pinned (OpenSpec.upto encodingRoundTripSpec)

/-- 'fullinglaw30.EncodingValid', WHERE WHAT IT READS IS OF BULK AT MOST 1048576: true; the input reads as it did. -/
def encodingValidUptoRow : OpenClaim := { program := "ytiecmbfcgjaflaadoor", sum := "507ed5afa0db0cfa75bbdc761c6e37eae5e4ca57918802f3aa9c27c888d100c5", func := "fulling/fullinglaw30.EncodingValid", spec := "encodingValid", unfollowed := true, recurses := true, named := ["fulling/machine.table"], apart := false, laid := [("fulling/machine.table", laid_fulling_machine_table)], narrowed := true }
def EncodingValidUptoSaid : Prop := encodingValidUptoRow.holds Tryd.pinned (OpenSpec.upto encodingValidSpec)

end Rows
end Go.Proofs.YtiecmbfcgjaflaaDoor
