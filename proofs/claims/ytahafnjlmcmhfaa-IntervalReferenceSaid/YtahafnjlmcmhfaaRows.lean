/-
  No cell of these rows narrows 'for every input' (looked for: loops, veiled, ifaces, maps, wideKeys, modest, calm, conditions, laid).
  DERIVED. THE GIVEN ROWS OF THIS SEAT. 5 by the template 'for every input the law returns true; each argument reads behind the call as it read before'; 0 by the template 'total and deterministic' (their statements: YtahafnjlmcmhfaaTotals.lean).
  GIVEN WITH THE SEED: the statements are not yours to turn. If you find one false, say at which input.
  Laid BY PROGRAM, IN A SANDBOX (cutbox-rows.mjs): the forced cells as the released guide's own fill.sh prints them over the translation c4b450cf3d0a8c6d… (all of the seat's roots in one cut). By AI agents, Wed Nov 11 2026. No macro, syntax, notation, axiom, sorry.
-/
import Derived.Test.YtahafnjlmcmhfaaChecked
import GoSem.Claim
import GoSem.ClaimJoined
import GoSem.ClaimMapViews
import Derived.JoinedTies
import Derived.KernelRfl
namespace Go.Proofs.Ytahafnjlmcmhfaa
/- THE CELL 'sum', in the pinned program and in every row, IS THE sha256 OF THE DUMP (.gsa) THAT YtahafnjlmcmhfaaProg.lean LOADS. Nothing in Lean hashes anything: it is a label: what it is worth is what the hold of that sum in a sandbox is worth. -/
noncomputable def Try.pinned : Pinned := { name := "ytahafnjlmcmhfaa", sum := "c4b450cf3d0a8c6d15124ac9b2858a5d8fb85164c82fe6cabcfcd10fa298f7a8", checked := Try.checked }
namespace Rows
def none {H : Type} : Left H := { results := [], args := [] }

/-- 'fullinglaw13.IntervalExamples': WHATEVER THE INPUT: true; the input reads as it did. -/
def intervalExamplesSpec : ChangeSpec := { name := "intervalExamples", fn := fun _ => fun
  | [] => { results := [.lit (.bool true)], args := [] }
  | _ => none }
def intervalExamplesRow : OpenClaim := { program := "ytahafnjlmcmhfaa", sum := "c4b450cf3d0a8c6d15124ac9b2858a5d8fb85164c82fe6cabcfcd10fa298f7a8", func := "fulling/fullinglaw13.IntervalExamples", spec := "intervalExamples", unfollowed := true, recurses := true, apart := false }
def IntervalExamplesSaid : Prop := intervalExamplesRow.holds Try.pinned (OpenSpec.ofChange intervalExamplesSpec)

/-- ITS FALSE NEIGHBOUR: 'it returns false'. Refute it at one input. -/
def intervalExamplesWrong : ChangeSpec := { name := "intervalExamples", fn := fun _ => fun
  | [] => { results := [.lit (.bool false)], args := [] }
  | _ => none }
def IntervalExamplesWrongFalsely : Prop := intervalExamplesRow.holds Try.pinned (OpenSpec.ofChange intervalExamplesWrong)

/-- 'fullinglaw13.IntervalLattice': WHATEVER THE INPUT: true; the input reads as it did. -/
def intervalLatticeSpec : ChangeSpec := { name := "intervalLattice", fn := fun _ => fun
  | [d1, d2, d3, d4, d5, d6, d7] => { results := [.lit (.bool true)], args := [d1, d2, d3, d4, d5, d6, d7] }
  | _ => none }
def intervalLatticeRow : OpenClaim := { program := "ytahafnjlmcmhfaa", sum := "c4b450cf3d0a8c6d15124ac9b2858a5d8fb85164c82fe6cabcfcd10fa298f7a8", func := "fulling/fullinglaw13.IntervalLattice", spec := "intervalLattice", unfollowed := true, recurses := true, apart := false }
def IntervalLatticeSaid : Prop := intervalLatticeRow.holds Try.pinned (OpenSpec.ofChange intervalLatticeSpec)

/-- ITS FALSE NEIGHBOUR: 'it returns false'. Refute it at one input. -/
def intervalLatticeWrong : ChangeSpec := { name := "intervalLattice", fn := fun _ => fun
  | [d1, d2, d3, d4, d5, d6, d7] => { results := [.lit (.bool false)], args := [d1, d2, d3, d4, d5, d6, d7] }
  | _ => none }
def IntervalLatticeWrongFalsely : Prop := intervalLatticeRow.holds Try.pinned (OpenSpec.ofChange intervalLatticeWrong)

/-- 'fullinglaw13.IntervalExact': WHATEVER THE INPUT: true; the input reads as it did. -/
def intervalExactSpec : ChangeSpec := { name := "intervalExact", fn := fun _ => fun
  | [d1, d2, d3, d4, d5] => { results := [.lit (.bool true)], args := [d1, d2, d3, d4, d5] }
  | _ => none }
def intervalExactRow : OpenClaim := { program := "ytahafnjlmcmhfaa", sum := "c4b450cf3d0a8c6d15124ac9b2858a5d8fb85164c82fe6cabcfcd10fa298f7a8", func := "fulling/fullinglaw13.IntervalExact", spec := "intervalExact", unfollowed := true, recurses := true, apart := false }
def IntervalExactSaid : Prop := intervalExactRow.holds Try.pinned (OpenSpec.ofChange intervalExactSpec)

/-- ITS FALSE NEIGHBOUR: 'it returns false'. Refute it at one input. -/
def intervalExactWrong : ChangeSpec := { name := "intervalExact", fn := fun _ => fun
  | [d1, d2, d3, d4, d5] => { results := [.lit (.bool false)], args := [d1, d2, d3, d4, d5] }
  | _ => none }
def IntervalExactWrongFalsely : Prop := intervalExactRow.holds Try.pinned (OpenSpec.ofChange intervalExactWrong)

/-- 'fullinglaw13.IntervalSound': WHATEVER THE INPUT: true; the input reads as it did. -/
def intervalSoundSpec : ChangeSpec := { name := "intervalSound", fn := fun _ => fun
  | [d1, d2, d3, d4, d5, d6, d7, d8, d9, d10, d11] => { results := [.lit (.bool true)], args := [d1, d2, d3, d4, d5, d6, d7, d8, d9, d10, d11] }
  | _ => none }
def intervalSoundRow : OpenClaim := { program := "ytahafnjlmcmhfaa", sum := "c4b450cf3d0a8c6d15124ac9b2858a5d8fb85164c82fe6cabcfcd10fa298f7a8", func := "fulling/fullinglaw13.IntervalSound", spec := "intervalSound", unfollowed := true, recurses := true, apart := false }
def IntervalSoundSaid : Prop := intervalSoundRow.holds Try.pinned (OpenSpec.ofChange intervalSoundSpec)

/-- ITS FALSE NEIGHBOUR: 'it returns false'. Refute it at one input. -/
def intervalSoundWrong : ChangeSpec := { name := "intervalSound", fn := fun _ => fun
  | [d1, d2, d3, d4, d5, d6, d7, d8, d9, d10, d11] => { results := [.lit (.bool false)], args := [d1, d2, d3, d4, d5, d6, d7, d8, d9, d10, d11] }
  | _ => none }
def IntervalSoundWrongFalsely : Prop := intervalSoundRow.holds Try.pinned (OpenSpec.ofChange intervalSoundWrong)

/-- 'fullinglaw13.IntervalReference': WHATEVER THE INPUT: true; the input reads as it did. -/
def intervalReferenceSpec : ChangeSpec := { name := "intervalReference", fn := fun _ => fun
  | [d1, d2, d3, d4, d5, d6, d7, d8, d9, d10, d11] => { results := [.lit (.bool true)], args := [d1, d2, d3, d4, d5, d6, d7, d8, d9, d10, d11] }
  | _ => none }
def intervalReferenceRow : OpenClaim := { program := "ytahafnjlmcmhfaa", sum := "c4b450cf3d0a8c6d15124ac9b2858a5d8fb85164c82fe6cabcfcd10fa298f7a8", func := "fulling/fullinglaw13.IntervalReference", spec := "intervalReference", unfollowed := true, recurses := true, apart := false }
def IntervalReferenceSaid : Prop := intervalReferenceRow.holds Try.pinned (OpenSpec.ofChange intervalReferenceSpec)

/-- ITS FALSE NEIGHBOUR: 'it returns false'. Refute it at one input. -/
def intervalReferenceWrong : ChangeSpec := { name := "intervalReference", fn := fun _ => fun
  | [d1, d2, d3, d4, d5, d6, d7, d8, d9, d10, d11] => { results := [.lit (.bool false)], args := [d1, d2, d3, d4, d5, d6, d7, d8, d9, d10, d11] }
  | _ => none }
def IntervalReferenceWrongFalsely : Prop := intervalReferenceRow.holds Try.pinned (OpenSpec.ofChange intervalReferenceWrong)

/- THE SECOND FORM. 'bulk': how many values and letters a reading holds, each counted each time it is reached (what is shared counts as often as it is met; a slice's spare places count too). A statement '..UptoSaid' is the law's where the arguments, and the package variables that the reading takes, are together of bulk at most 1048576: NARROWER than '..Said'. Prove '..Said' where nothing that the law and all that it calls make is longer than what came in: it says more and counts as full. Else prove '..UptoSaid'. A law counts once. -/
mutual
def uptoBulk {H : Type} : DataW H → Nat
  | .lit (.string bytes) => bytes.length + 1
  | .lit _ => 1
  | .nil => 1
  | .ptr d => uptoBulk d + 1
  | .slice elems spare => uptoBulkAll elems + uptoBulkAll spare + 1
  | .agg parts => uptoBulkAll parts + 1
  | .iface _ d => uptoBulk d + 1
  | .map entries => uptoBulkEntries entries + 1
  | .held _ => 1
def uptoBulkAll {H : Type} : List (DataW H) → Nat
  | [] => 0
  | d :: r => uptoBulk d + uptoBulkAll r
def uptoBulkEntries {H : Type} : List (Lit × DataW H) → Nat
  | [] => 0
  | x :: r => uptoBulkEntry x + uptoBulkEntries r
def uptoBulkEntry {H : Type} : Lit × DataW H → Nat
  | (.string bytes, d) => bytes.length + uptoBulk d + 1
  | (_, d) => uptoBulk d + 1
 end
def uptoSmall : (H : Type) → List (DataW H) → Bool := fun _ ds => decide (uptoBulkAll ds ≤ 1048576)
def OpenSpec.upto (s : _root_.Go.ChangeSpec) : _root_.Go.OpenSpec := { _root_.Go.OpenSpec.ofChange s with cond := some uptoSmall }

/-- 'fullinglaw13.IntervalExamples', WHERE WHAT IT READS IS OF BULK AT MOST 1048576: true; the input reads as it did. -/
def intervalExamplesUptoRow : OpenClaim := { program := "ytahafnjlmcmhfaa", sum := "c4b450cf3d0a8c6d15124ac9b2858a5d8fb85164c82fe6cabcfcd10fa298f7a8", func := "fulling/fullinglaw13.IntervalExamples", spec := "intervalExamples", unfollowed := true, recurses := true, apart := false, narrowed := true }
def IntervalExamplesUptoSaid : Prop := intervalExamplesUptoRow.holds Try.pinned (OpenSpec.upto intervalExamplesSpec)

/-- 'fullinglaw13.IntervalLattice', WHERE WHAT IT READS IS OF BULK AT MOST 1048576: true; the input reads as it did. -/
def intervalLatticeUptoRow : OpenClaim := { program := "ytahafnjlmcmhfaa", sum := "c4b450cf3d0a8c6d15124ac9b2858a5d8fb85164c82fe6cabcfcd10fa298f7a8", func := "fulling/fullinglaw13.IntervalLattice", spec := "intervalLattice", unfollowed := true, recurses := true, apart := false, narrowed := true }
def IntervalLatticeUptoSaid : Prop := intervalLatticeUptoRow.holds Try.pinned (OpenSpec.upto intervalLatticeSpec)

/-- 'fullinglaw13.IntervalExact', WHERE WHAT IT READS IS OF BULK AT MOST 1048576: true; the input reads as it did. -/
def intervalExactUptoRow : OpenClaim := { program := "ytahafnjlmcmhfaa", sum := "c4b450cf3d0a8c6d15124ac9b2858a5d8fb85164c82fe6cabcfcd10fa298f7a8", func := "fulling/fullinglaw13.IntervalExact", spec := "intervalExact", unfollowed := true, recurses := true, apart := false, narrowed := true }
def IntervalExactUptoSaid : Prop := intervalExactUptoRow.holds Try.pinned (OpenSpec.upto intervalExactSpec)

/-- 'fullinglaw13.IntervalSound', WHERE WHAT IT READS IS OF BULK AT MOST 1048576: true; the input reads as it did. -/
def intervalSoundUptoRow : OpenClaim := { program := "ytahafnjlmcmhfaa", sum := "c4b450cf3d0a8c6d15124ac9b2858a5d8fb85164c82fe6cabcfcd10fa298f7a8", func := "fulling/fullinglaw13.IntervalSound", spec := "intervalSound", unfollowed := true, recurses := true, apart := false, narrowed := true }
def IntervalSoundUptoSaid : Prop := intervalSoundUptoRow.holds Try.pinned (OpenSpec.upto intervalSoundSpec)

/-- 'fullinglaw13.IntervalReference', WHERE WHAT IT READS IS OF BULK AT MOST 1048576: true; the input reads as it did. -/
def intervalReferenceUptoRow : OpenClaim := { program := "ytahafnjlmcmhfaa", sum := "c4b450cf3d0a8c6d15124ac9b2858a5d8fb85164c82fe6cabcfcd10fa298f7a8", func := "fulling/fullinglaw13.IntervalReference", spec := "intervalReference", unfollowed := true, recurses := true, apart := false, narrowed := true }
def IntervalReferenceUptoSaid : Prop := intervalReferenceUptoRow.holds Try.pinned (OpenSpec.upto intervalReferenceSpec)

end Rows
end Go.Proofs.Ytahafnjlmcmhfaa
