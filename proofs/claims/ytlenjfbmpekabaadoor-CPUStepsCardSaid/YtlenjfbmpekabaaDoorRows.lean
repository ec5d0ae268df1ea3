/-
  NARROWER THAN 'FOR EVERY INPUT', by the rows' own cells (each row's printed sentence says how): EncodingValid: laid · CPUErrors: laid · CPURun: laid · CPUFuel: laid · CPUEnds: laid · CPUInputs: laid · CPUSteps: laid · CPUEffects: laid.
  DERIVED. THE GIVEN ROWS OF THIS SEAT. 8 by the template 'for every input the law returns true; each argument reads behind the call as it read before'; 0 by the template 'total and deterministic' (their statements: YtlenjfbmpekabaaDoorTotals.lean).
  GIVEN WITH THE SEED: the statements are not yours to turn. If you find one false, say at which input.
  Laid BY PROGRAM, IN A SANDBOX (cutbox-rows.mjs): the forced cells as the released guide's own fill.sh prints them over the translation 8a12a00fed1ca5c5… (all of the seat's roots in one cut). By AI agents, Wed Nov 11 2026. No macro, syntax, notation, axiom, sorry.
-/
import Derived.Test.YtlenjfbmpekabaaDoorChecked
import GoSem.Claim
import GoSem.ClaimJoined
import GoSem.ClaimMapViews
import Derived.JoinedTies
import Derived.KernelRfl
namespace Go.Proofs.YtlenjfbmpekabaaDoor
/- THE CELL 'sum', in the pinned program and in every row, IS THE sha256 OF THE DUMP (.gsa) THAT YtlenjfbmpekabaaDoorProg.lean LOADS. Nothing in Lean hashes anything: it is a label: what it is worth is what the hold of that sum in a sandbox is worth. -/
noncomputable def Tryd.pinned : Pinned := { name := "ytlenjfbmpekabaadoor", sum := "8a12a00fed1ca5c5c39705d4f52426ca3c030eee9d04bdb1f8dd310323599231", checked := Tryd.checked }
namespace Rows
def none {H : Type} : Left H := { results := [], args := [] }

/- WHAT THE LISTED PACKAGE-LEVEL VARIABLES READ AS WHEN THE CALL BEGINS. Each datum BY PROGRAM (the guide's laid-datum.mjs) off the statement by which the dump's own 'gosem.cut.vars' lays the variable. In a bare row this is a premise. The card (YtlenjfbmpekabaaDoorCards.lean) ties it to the program's text. -/
def laid_fulling_machine_table {H : Type} : DataW H := .slice [.agg [.lit (.string [110, 111, 112]), .lit (.int .i64 1), .lit (.bool false), .lit (.bool false), .lit (.bool false), .lit (.bool false), .lit (.int .i64 1)], .agg [.lit (.string [114, 101, 116]), .lit (.int .i64 1), .lit (.bool false), .lit (.bool false), .lit (.bool false), .lit (.bool false), .lit (.int .i64 1)], .agg [.lit (.string [116, 105, 99, 107]), .lit (.int .i64 1), .lit (.bool false), .lit (.bool false), .lit (.bool false), .lit (.bool false), .lit (.int .i64 1)], .agg [.lit (.string [116, 114, 97, 112]), .lit (.int .i64 8), .lit (.bool false), .lit (.bool false), .lit (.bool false), .lit (.bool true), .lit (.int .i64 1)], .agg [.lit (.string [106, 109, 112]), .lit (.int .i64 8), .lit (.bool false), .lit (.bool false), .lit (.bool false), .lit (.bool false), .lit (.int .i64 1)], .agg [.lit (.string [99, 97, 108, 108]), .lit (.int .i64 5), .lit (.bool false), .lit (.bool false), .lit (.bool false), .lit (.bool false), .lit (.int .i64 1)], .agg [.lit (.string [106, 122]), .lit (.int .i64 5), .lit (.bool true), .lit (.bool false), .lit (.bool false), .lit (.bool false), .lit (.int .i64 1)], .agg [.lit (.string [106, 110, 122]), .lit (.int .i64 5), .lit (.bool true), .lit (.bool false), .lit (.bool false), .lit (.bool false), .lit (.int .i64 1)], .agg [.lit (.string [111, 117, 116]), .lit (.int .i64 2), .lit (.bool true), .lit (.bool false), .lit (.bool false), .lit (.bool false), .lit (.int .i64 1)], .agg [.lit (.string [109, 111, 118]), .lit (.int .i64 3), .lit (.bool false), .lit (.bool true), .lit (.bool true), .lit (.bool false), .lit (.int .i64 1)], .agg [.lit (.string [99, 109, 111, 118, 122]), .lit (.int .i64 4), .lit (.bool true), .lit (.bool true), .lit (.bool true), .lit (.bool false), .lit (.int .i64 1)], .agg [.lit (.string [99, 109, 111, 118, 110, 122]), .lit (.int .i64 4), .lit (.bool true), .lit (.bool true), .lit (.bool true), .lit (.bool false), .lit (.int .i64 1)], .agg [.lit (.string [108, 100, 105]), .lit (.int .i64 5), .lit (.bool false), .lit (.bool true), .lit (.bool false), .lit (.bool false), .lit (.int .i64 1)], .agg [.lit (.string [108, 100, 99]), .lit (.int .i64 6), .lit (.bool false), .lit (.bool true), .lit (.bool false), .lit (.bool false), .lit (.int .i64 3)], .agg [.lit (.string [110, 101, 103]), .lit (.int .i64 2), .lit (.bool true), .lit (.bool true), .lit (.bool false), .lit (.bool false), .lit (.int .i64 1)], .agg [.lit (.string [110, 111, 116]), .lit (.int .i64 2), .lit (.bool true), .lit (.bool true), .lit (.bool false), .lit (.bool false), .lit (.int .i64 1)], .agg [.lit (.string [97, 100, 100]), .lit (.int .i64 3), .lit (.bool true), .lit (.bool true), .lit (.bool true), .lit (.bool false), .lit (.int .i64 1)], .agg [.lit (.string [115, 117, 98]), .lit (.int .i64 3), .lit (.bool true), .lit (.bool true), .lit (.bool true), .lit (.bool false), .lit (.int .i64 1)], .agg [.lit (.string [109, 117, 108]), .lit (.int .i64 3), .lit (.bool true), .lit (.bool true), .lit (.bool true), .lit (.bool false), .lit (.int .i64 1)], .agg [.lit (.string [100, 105, 118]), .lit (.int .i64 3), .lit (.bool true), .lit (.bool true), .lit (.bool true), .lit (.bool true), .lit (.int .i64 1)], .agg [.lit (.string [114, 101, 109]), .lit (.int .i64 3), .lit (.bool true), .lit (.bool true), .lit (.bool true), .lit (.bool true), .lit (.int .i64 1)], .agg [.lit (.string [97, 110, 100]), .lit (.int .i64 3), .lit (.bool true), .lit (.bool true), .lit (.bool true), .lit (.bool false), .lit (.int .i64 1)], .agg [.lit (.string [111, 114]), .lit (.int .i64 3), .lit (.bool true), .lit (.bool true), .lit (.bool true), .lit (.bool false), .lit (.int .i64 1)], .agg [.lit (.string [120, 111, 114]), .lit (.int .i64 3), .lit (.bool true), .lit (.bool true), .lit (.bool true), .lit (.bool false), .lit (.int .i64 1)], .agg [.lit (.string [115, 104, 108]), .lit (.int .i64 3), .lit (.bool true), .lit (.bool true), .lit (.bool true), .lit (.bool false), .lit (.int .i64 1)], .agg [.lit (.string [115, 104, 114]), .lit (.int .i64 3), .lit (.bool true), .lit (.bool true), .lit (.bool true), .lit (.bool false), .lit (.int .i64 1)], .agg [.lit (.string [115, 97, 114]), .lit (.int .i64 3), .lit (.bool true), .lit (.bool true), .lit (.bool true), .lit (.bool false), .lit (.int .i64 1)], .agg [.lit (.string [101, 113]), .lit (.int .i64 3), .lit (.bool true), .lit (.bool true), .lit (.bool true), .lit (.bool false), .lit (.int .i64 1)], .agg [.lit (.string [110, 101]), .lit (.int .i64 3), .lit (.bool true), .lit (.bool true), .lit (.bool true), .lit (.bool false), .lit (.int .i64 1)], .agg [.lit (.string [108, 116]), .lit (.int .i64 3), .lit (.bool true), .lit (.bool true), .lit (.bool true), .lit (.bool false), .lit (.int .i64 1)], .agg [.lit (.string [108, 101]), .lit (.int .i64 3), .lit (.bool true), .lit (.bool true), .lit (.bool true), .lit (.bool false), .lit (.int .i64 1)], .agg [.lit (.string [108, 116, 117]), .lit (.int .i64 3), .lit (.bool true), .lit (.bool true), .lit (.bool true), .lit (.bool false), .lit (.int .i64 1)], .agg [.lit (.string [97, 100, 100, 105]), .lit (.int .i64 5), .lit (.bool true), .lit (.bool true), .lit (.bool false), .lit (.bool false), .lit (.int .i64 1)], .agg [.lit (.string [108, 100]), .lit (.int .i64 7), .lit (.bool false), .lit (.bool true), .lit (.bool true), .lit (.bool true), .lit (.int .i64 1)], .agg [.lit (.string [115, 116]), .lit (.int .i64 7), .lit (.bool true), .lit (.bool false), .lit (.bool true), .lit (.bool true), .lit (.int .i64 1)], .agg [.lit (.string [108, 100, 115]), .lit (.int .i64 5), .lit (.bool false), .lit (.bool true), .lit (.bool false), .lit (.bool false), .lit (.int .i64 1)], .agg [.lit (.string [115, 116, 115]), .lit (.int .i64 5), .lit (.bool true), .lit (.bool false), .lit (.bool false), .lit (.bool false), .lit (.int .i64 1)]] []

/-- 'fullinglaw30.EncodingValid': WHATEVER THE INPUT: true; the input reads as it did. -/
def encodingValidSpec : ChangeSpec := { name := "encodingValid", fn := fun _ => fun
  | [d1, d2, d3, d4, d5] => { results := [.lit (.bool true)], args := [d1, d2, d3, d4, d5] }
  | _ => none }
def encodingValidRow : OpenClaim := { program := "ytlenjfbmpekabaadoor", sum := "8a12a00fed1ca5c5c39705d4f52426ca3c030eee9d04bdb1f8dd310323599231", func := "fulling/fullinglaw30.EncodingValid", spec := "encodingValid", unfollowed := true, recurses := true, named := ["fulling/machine.table"], apart := false, laid := [("fulling/machine.table", laid_fulling_machine_table)] }
def EncodingValidSaid : Prop := encodingValidRow.holds Tryd.pinned (OpenSpec.ofChange encodingValidSpec)

/-- ITS FALSE NEIGHBOUR: 'it returns false'. Refute it at one input. -/
def encodingValidWrong : ChangeSpec := { name := "encodingValid", fn := fun _ => fun
  | [d1, d2, d3, d4, d5] => { results := [.lit (.bool false)], args := [d1, d2, d3, d4, d5] }
  | _ => none }
def EncodingValidWrongFalsely : Prop := encodingValidRow.holds Tryd.pinned (OpenSpec.ofChange encodingValidWrong)

/-- 'fullinglaw31.CPUErrors': WHATEVER THE INPUT: true; the input reads as it did. -/
def cPUErrorsSpec : ChangeSpec := { name := "cPUErrors", fn := fun _ => fun
  | [d1, d2, d3, d4, d5, d6, d7, d8] => { results := [.lit (.bool true)], args := [d1, d2, d3, d4, d5, d6, d7, d8] }
  | _ => none }
def cPUErrorsRow : OpenClaim := { program := "ytlenjfbmpekabaadoor", sum := "8a12a00fed1ca5c5c39705d4f52426ca3c030eee9d04bdb1f8dd310323599231", func := "fulling/fullinglaw31.CPUErrors", spec := "cPUErrors", unfollowed := true, recurses := true, named := ["fulling/machine.table"], apart := false, laid := [("fulling/machine.table", laid_fulling_machine_table)] }
def CPUErrorsSaid : Prop := cPUErrorsRow.holds Tryd.pinned (OpenSpec.ofChange cPUErrorsSpec)

/-- ITS FALSE NEIGHBOUR: 'it returns false'. Refute it at one input. -/
def cPUErrorsWrong : ChangeSpec := { name := "cPUErrors", fn := fun _ => fun
  | [d1, d2, d3, d4, d5, d6, d7, d8] => { results := [.lit (.bool false)], args := [d1, d2, d3, d4, d5, d6, d7, d8] }
  | _ => none }
def CPUErrorsWrongFalsely : Prop := cPUErrorsRow.holds Tryd.pinned (OpenSpec.ofChange cPUErrorsWrong)

/-- 'fullinglaw31.CPURun': WHATEVER THE INPUT: true; the input reads as it did. -/
def cPURunSpec : ChangeSpec := { name := "cPURun", fn := fun _ => fun
  | [d1, d2, d3, d4, d5, d6, d7] => { results := [.lit (.bool true)], args := [d1, d2, d3, d4, d5, d6, d7] }
  | _ => none }
def cPURunRow : OpenClaim := { program := "ytlenjfbmpekabaadoor", sum := "8a12a00fed1ca5c5c39705d4f52426ca3c030eee9d04bdb1f8dd310323599231", func := "fulling/fullinglaw31.CPURun", spec := "cPURun", unfollowed := true, recurses := true, named := ["fulling/machine.table"], apart := false, laid := [("fulling/machine.table", laid_fulling_machine_table)] }
def CPURunSaid : Prop := cPURunRow.holds Tryd.pinned (OpenSpec.ofChange cPURunSpec)

/-- ITS FALSE NEIGHBOUR: 'it returns false'. Refute it at one input. -/
def cPURunWrong : ChangeSpec := { name := "cPURun", fn := fun _ => fun
  | [d1, d2, d3, d4, d5, d6, d7] => { results := [.lit (.bool false)], args := [d1, d2, d3, d4, d5, d6, d7] }
  | _ => none }
def CPURunWrongFalsely : Prop := cPURunRow.holds Tryd.pinned (OpenSpec.ofChange cPURunWrong)

/-- 'fullinglaw31.CPUFuel': WHATEVER THE INPUT: true; the input reads as it did. -/
def cPUFuelSpec : ChangeSpec := { name := "cPUFuel", fn := fun _ => fun
  | [d1, d2, d3, d4, d5, d6, d7] => { results := [.lit (.bool true)], args := [d1, d2, d3, d4, d5, d6, d7] }
  | _ => none }
def cPUFuelRow : OpenClaim := { program := "ytlenjfbmpekabaadoor", sum := "8a12a00fed1ca5c5c39705d4f52426ca3c030eee9d04bdb1f8dd310323599231", func := "fulling/fullinglaw31.CPUFuel", spec := "cPUFuel", unfollowed := true, recurses := true, named := ["fulling/machine.table"], apart := false, laid := [("fulling/machine.table", laid_fulling_machine_table)] }
def CPUFuelSaid : Prop := cPUFuelRow.holds Tryd.pinned (OpenSpec.ofChange cPUFuelSpec)

/-- ITS FALSE NEIGHBOUR: 'it returns false'. Refute it at one input. -/
def cPUFuelWrong : ChangeSpec := { name := "cPUFuel", fn := fun _ => fun
  | [d1, d2, d3, d4, d5, d6, d7] => { results := [.lit (.bool false)], args := [d1, d2, d3, d4, d5, d6, d7] }
  | _ => none }
def CPUFuelWrongFalsely : Prop := cPUFuelRow.holds Tryd.pinned (OpenSpec.ofChange cPUFuelWrong)

/-- 'fullinglaw31.CPUEnds': WHATEVER THE INPUT: true; the input reads as it did. -/
def cPUEndsSpec : ChangeSpec := { name := "cPUEnds", fn := fun _ => fun
  | [d1, d2, d3, d4, d5, d6] => { results := [.lit (.bool true)], args := [d1, d2, d3, d4, d5, d6] }
  | _ => none }
def cPUEndsRow : OpenClaim := { program := "ytlenjfbmpekabaadoor", sum := "8a12a00fed1ca5c5c39705d4f52426ca3c030eee9d04bdb1f8dd310323599231", func := "fulling/fullinglaw31.CPUEnds", spec := "cPUEnds", unfollowed := true, recurses := true, named := ["fulling/machine.table"], apart := false, laid := [("fulling/machine.table", laid_fulling_machine_table)] }
def CPUEndsSaid : Prop := cPUEndsRow.holds Tryd.pinned (OpenSpec.ofChange cPUEndsSpec)

/-- ITS FALSE NEIGHBOUR: 'it returns false'. Refute it at one input. -/
def cPUEndsWrong : ChangeSpec := { name := "cPUEnds", fn := fun _ => fun
  | [d1, d2, d3, d4, d5, d6] => { results := [.lit (.bool false)], args := [d1, d2, d3, d4, d5, d6] }
  | _ => none }
def CPUEndsWrongFalsely : Prop := cPUEndsRow.holds Tryd.pinned (OpenSpec.ofChange cPUEndsWrong)

/-- 'fullinglaw31.CPUInputs': WHATEVER THE INPUT: true; the input reads as it did. -/
def cPUInputsSpec : ChangeSpec := { name := "cPUInputs", fn := fun _ => fun
  | [d1, d2, d3, d4, d5, d6] => { results := [.lit (.bool true)], args := [d1, d2, d3, d4, d5, d6] }
  | _ => none }
def cPUInputsRow : OpenClaim := { program := "ytlenjfbmpekabaadoor", sum := "8a12a00fed1ca5c5c39705d4f52426ca3c030eee9d04bdb1f8dd310323599231", func := "fulling/fullinglaw31.CPUInputs", spec := "cPUInputs", unfollowed := true, recurses := true, named := ["fulling/machine.table"], apart := false, laid := [("fulling/machine.table", laid_fulling_machine_table)] }
def CPUInputsSaid : Prop := cPUInputsRow.holds Tryd.pinned (OpenSpec.ofChange cPUInputsSpec)

/-- ITS FALSE NEIGHBOUR: 'it returns false'. Refute it at one input. -/
def cPUInputsWrong : ChangeSpec := { name := "cPUInputs", fn := fun _ => fun
  | [d1, d2, d3, d4, d5, d6] => { results := [.lit (.bool false)], args := [d1, d2, d3, d4, d5, d6] }
  | _ => none }
def CPUInputsWrongFalsely : Prop := cPUInputsRow.holds Tryd.pinned (OpenSpec.ofChange cPUInputsWrong)

/-- 'fullinglaw31.CPUSteps': WHATEVER THE INPUT: true; the input reads as it did. -/
def cPUStepsSpec : ChangeSpec := { name := "cPUSteps", fn := fun _ => fun
  | [d1, d2, d3, d4, d5, d6] => { results := [.lit (.bool true)], args := [d1, d2, d3, d4, d5, d6] }
  | _ => none }
def cPUStepsRow : OpenClaim := { program := "ytlenjfbmpekabaadoor", sum := "8a12a00fed1ca5c5c39705d4f52426ca3c030eee9d04bdb1f8dd310323599231", func := "fulling/fullinglaw31.CPUSteps", spec := "cPUSteps", unfollowed := true, recurses := true, named := ["fulling/machine.table"], apart := false, laid := [("fulling/machine.table", laid_fulling_machine_table)] }
def CPUStepsSaid : Prop := cPUStepsRow.holds Tryd.pinned (OpenSpec.ofChange cPUStepsSpec)

/-- ITS FALSE NEIGHBOUR: 'it returns false'. Refute it at one input. -/
def cPUStepsWrong : ChangeSpec := { name := "cPUSteps", fn := fun _ => fun
  | [d1, d2, d3, d4, d5, d6] => { results := [.lit (.bool false)], args := [d1, d2, d3, d4, d5, d6] }
  | _ => none }
def CPUStepsWrongFalsely : Prop := cPUStepsRow.holds Tryd.pinned (OpenSpec.ofChange cPUStepsWrong)

/-- 'fullinglaw31.CPUEffects': WHATEVER THE INPUT: true; the input reads as it did. -/
def cPUEffectsSpec : ChangeSpec := { name := "cPUEffects", fn := fun _ => fun
  | [d1, d2, d3, d4, d5, d6] => { results := [.lit (.bool true)], args := [d1, d2, d3, d4, d5, d6] }
  | _ => none }
def cPUEffectsRow : OpenClaim := { program := "ytlenjfbmpekabaadoor", sum := "8a12a00fed1ca5c5c39705d4f52426ca3c030eee9d04bdb1f8dd310323599231", func := "fulling/fullinglaw31.CPUEffects", spec := "cPUEffects", unfollowed := true, recurses := true, named := ["fulling/machine.table"], apart := false, laid := [("fulling/machine.table", laid_fulling_machine_table)] }
def CPUEffectsSaid : Prop := cPUEffectsRow.holds Tryd.pinned (OpenSpec.ofChange cPUEffectsSpec)

/-- ITS FALSE NEIGHBOUR: 'it returns false'. Refute it at one input. -/
def cPUEffectsWrong : ChangeSpec := { name := "cPUEffects", fn := fun _ => fun
  | [d1, d2, d3, d4, d5, d6] => { results := [.lit (.bool false)], args := [d1, d2, d3, d4, d5, d6] }
  | _ => none }
def CPUEffectsWrongFalsely : Prop := cPUEffectsRow.holds Tryd.pinned (OpenSpec.ofChange cPUEffectsWrong)

/- THE SECOND FORM. 'bulk': how many values and letters a reading holds, each counted each time it is reached (what is shared counts as often as it is met; a slice's spare places count too). A statement '..UptoSaid' is the law's where the arguments, and the package variables that the reading takes, are together of bulk at most 1048576: NARROWER than '..Said'. Prove '..Said' where nothing that the law and all that it calls make is longer than what came in: it says more and counts as full. Else prove '..UptoSaid'. A law counts once. -/
mutual
def uptoBulk {H : Type} : DataW H → Nat
  | .lit (.string bytes) => bytes.length + 1
  | .lit _ => 1
  | .nil => 1
  | .ptr d => uptoBulk d + 1
  | .slice elems spare => uptoBulkAll elems + uptoBulkAll spare + 1
  | .agg parts => uptoBulkAll parts + 1
  | .iface _ d => uptoBulk d + 1
  | .map entries => uptoBulkEntries entries + 1
  | .held _ => 1
def uptoBulkAll {H : Type} : List (DataW H) → Nat
  | [] => 0
  | d :: r => uptoBulk d + uptoBulkAll r
def uptoBulkEntries {H : Type} : List (Lit × DataW H) → Nat
  | [] => 0
  | x :: r => uptoBulkEntry x + uptoBulkEntries r
def uptoBulkEntry {H : Type} : Lit × DataW H → Nat
  | (.string bytes, d) => bytes.length + uptoBulk d + 1
  | (_, d) => uptoBulk d + 1
 end
def uptoSmall : (H : Type) → List (DataW H) → Bool := fun _ ds => decide (uptoBulkAll ds ≤ 1048576)
def OpenSpec.upto (s : _root_.Go.ChangeSpec) : _root_.Go.OpenSpec := { _root_.Go.OpenSpec.ofChange s with cond := some uptoSmall }

/-- 'fullinglaw30.EncodingValid', WHERE WHAT IT READS IS OF BULK AT MOST 1048576: true; the input reads as it did. -/
def encodingValidUptoRow : OpenClaim := { program := "ytlenjfbmpekabaadoor", sum := "8a12a00fed1ca5c5c39705d4f52426ca3c030eee9d04bdb1f8dd310323599231", func := "fulling/fullinglaw30.EncodingValid", spec := "encodingValid", unfollowed := true, recurses := true, named := ["fulling/machine.table"], apart := false, laid := [("fulling/machine.table", laid_fulling_machine_table)], narrowed := true }
def EncodingValidUptoSaid : Prop := encodingValidUptoRow.holds Tryd.pinned (OpenSpec.upto encodingValidSpec)

/-- 'fullinglaw31.CPUErrors', WHERE WHAT IT READS IS OF BULK AT MOST 1048576: true; the input reads as it did. -/
def cPUErrorsUptoRow : OpenClaim := { program := "ytlenjfbmpekabaadoor", sum := "8a12a00fed1ca5c5c39705d4f52426ca3c030eee9d04bdb1f8dd310323599231", func := "fulling/fullinglaw31.CPUErrors", spec := "cPUErrors", unfollowed := true, recurses := true, named := ["fulling/machine.table"], apart := false, laid := [("fulling/machine.table", laid_fulling_machine_table)], narrowed := true }
def CPUErrorsUptoSaid : Prop := cPUErrorsUptoRow.holds Tryd.pinned (OpenSpec.upto cPUErrorsSpec)

/-- 'fullinglaw31.CPURun', WHERE WHAT IT READS IS OF BULK AT MOST 1048576: true; the input reads as it did. -/
def cPURunUptoRow : OpenClaim := { program := "ytlenjfbmpekabaadoor", sum := "8a12a00fed1ca5c5c39705d4f52426ca3c030eee9d04bdb1f8dd310323599231", func := "fulling/fullinglaw31.CPURun", spec := "cPURun", unfollowed := true, recurses := true, named := ["fulling/machine.table"], apart := false, laid := [("fulling/machine.table", laid_fulling_machine_table)], narrowed := true }
def CPURunUptoSaid : Prop := cPURunUptoRow.holds Tryd.pinned (OpenSpec.upto cPURunSpec)

/-- 'fullinglaw31.CPUFuel', WHERE WHAT IT READS IS OF BULK AT MOST 1048576: true; the input reads as it did. -/
def cPUFuelUptoRow : OpenClaim := { program := "ytlenjfbmpekabaadoor", sum := "8a12a00fed1ca5c5c39705d4f52426ca3c030eee9d04bdb1f8dd310323599231", func := "fulling/fullinglaw31.CPUFuel", spec := "cPUFuel", unfollowed := true, recurses := true, named := ["fulling/machine.table"], apart := false, laid := [("fulling/machine.table", laid_fulling_machine_table)], narrowed := true }
def CPUFuelUptoSaid : Prop := cPUFuelUptoRow.holds Tryd.pinned (OpenSpec.upto cPUFuelSpec)

/-- 'fullinglaw31.CPUEnds', WHERE WHAT IT READS IS OF BULK AT MOST 1048576: true; the input reads as it did. -/
def cPUEndsUptoRow : OpenClaim := { program := "ytlenjfbmpekabaadoor", sum := "8a12a00fed1ca5c5c39705d4f52426ca3c030eee9d04bdb1f8dd310323599231", func := "fulling/fullinglaw31.CPUEnds", spec := "cPUEnds", unfollowed := true, recurses := true, named := ["fulling/machine.table"], apart := false, laid := [("fulling/machine.table", laid_fulling_machine_table)], narrowed := true }
def CPUEndsUptoSaid : Prop := cPUEndsUptoRow.holds Tryd.pinned (OpenSpec.upto cPUEndsSpec)

/-- 'fullinglaw31.CPUInputs', WHERE WHAT IT READS IS OF BULK AT MOST 1048576: true; the input reads as it did. -/
def cPUInputsUptoRow : OpenClaim := { program := "ytlenjfbmpekabaadoor", sum := "8a12a00fed1ca5c5c39705d4f52426ca3c030eee9d04bdb1f8dd310323599231", func := "fulling/fullinglaw31.CPUInputs", spec := "cPUInputs", unfollowed := true, recurses := true, named := ["fulling/machine.table"], apart := false, laid := [("fulling/machine.table", laid_fulling_machine_table)], narrowed := true }
def CPUInputsUptoSaid : Prop := cPUInputsUptoRow.holds Tryd.pinned (OpenSpec.upto cPUInputsSpec)

/-- 'fullinglaw31.CPUSteps', WHERE WHAT IT READS IS OF BULK AT MOST 1048576: true; the input reads as it did. -/
def cPUStepsUptoRow : OpenClaim := { program := "ytlenjfbmpekabaadoor", sum := "8a12a00fed1ca5c5c39705d4f52426ca3c030eee9d04bdb1f8dd310323599231", func := "fulling/fullinglaw31.CPUSteps", spec := "cPUSteps", unfollowed := true, recurses := true, named := ["fulling/machine.table"], apart := false, laid := [("fulling/machine.table", laid_fulling_machine_table)], narrowed := true }
def CPUStepsUptoSaid : Prop := cPUStepsUptoRow.holds Tryd.pinned (OpenSpec.upto cPUStepsSpec)

/-- 'fullinglaw31.CPUEffects', WHERE WHAT IT READS IS OF BULK AT MOST 1048576: true; the input reads as it did. -/
def cPUEffectsUptoRow : OpenClaim := { program := "ytlenjfbmpekabaadoor", sum := "8a12a00fed1ca5c5c39705d4f52426ca3c030eee9d04bdb1f8dd310323599231", func := "fulling/fullinglaw31.CPUEffects", spec := "cPUEffects", unfollowed := true, recurses := true, named := ["fulling/machine.table"], apart := false, laid := [("fulling/machine.table", laid_fulling_machine_table)], narrowed := true }
def CPUEffectsUptoSaid : Prop := cPUEffectsUptoRow.holds Tryd.pinned (OpenSpec.upto cPUEffectsSpec)

end Rows
end Go.Proofs.YtlenjfbmpekabaaDoor
