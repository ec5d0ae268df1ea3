/-
  DERIVED. GIVEN WITH THE SEED: THE CARDS: each row of YtfmcdageaananaaDoorRows.lean that lists a variable, with what it lists TIED to the program's text (the seventh form; the later family's looks); each row that meets fmt, with fmt's text TOLD by the authors' own Lean function (tested against real Go, not proved from fmt's source: count such statements apart). THE CARD IS WHAT COUNTS. Prove the row's statement (the work); the ties are given (YtfmcdageaananaaDoorTie.lean); close each card by the builder's one call (the guide's Derived/Test/ToyasCard.lean, 'card_holds'). Laid BY PROGRAM, IN A SANDBOX (cutbox-door.mjs). By AI agents, Wed Nov 11 2026. No macro, syntax, notation, axiom, sorry.
-/
import Derived.Test.YtfmcdageaananaaDoorRows
import GoSem.ClaimSeven
namespace Go.Proofs.YtfmcdageaananaaDoor
namespace Rows

/-- THE TIED CARD OF 'fullinglaw29.MachineExamples'. -/
def machineExamplesCard : Claim7 := { stood := { row := machineExamplesRow, standIns := [], harness := (true, "c10988018bca0cec1a8d7a284354e3fe566a96283b8f3b98c3b6e3fc165a9ede"), looks := false }, kinds := [], alts := [], laidByText := true, laidKinds := [.data], laidTests := true, laidLooks := .later }
def MachineExamplesCardSaid : Prop := Claim7.holds Tryd.pinned (.plain (OpenSpec.ofChange machineExamplesSpec)) machineExamplesCard

/-- THE TIED CARD OF 'fullinglaw29.MachineInfo'. -/
def machineInfoCard : Claim7 := { stood := { row := machineInfoRow, standIns := [], harness := (true, "c10988018bca0cec1a8d7a284354e3fe566a96283b8f3b98c3b6e3fc165a9ede"), looks := false }, kinds := [], alts := [], laidByText := true, laidKinds := [.data], laidTests := true, laidLooks := .later }
def MachineInfoCardSaid : Prop := Claim7.holds Tryd.pinned (.plain (OpenSpec.ofChange machineInfoSpec)) machineInfoCard

/-- THE TIED CARD OF 'fullinglaw29.MachineText'. -/
def machineTextCard : Claim7 := { stood := { row := machineTextRow, standIns := [], harness := (true, "c10988018bca0cec1a8d7a284354e3fe566a96283b8f3b98c3b6e3fc165a9ede"), looks := false }, kinds := [], alts := [], laidByText := true, laidKinds := [.data], laidTests := true, laidLooks := .later }
def MachineTextCardSaid : Prop := Claim7.holds Tryd.pinned (.plain (OpenSpec.ofChange machineTextSpec)) machineTextCard

/-- THE TIED CARD OF 'fullinglaw29.MachineRoundTrip'. -/
def machineRoundTripCard : Claim7 := { stood := { row := machineRoundTripRow, standIns := [], harness := (true, "c10988018bca0cec1a8d7a284354e3fe566a96283b8f3b98c3b6e3fc165a9ede"), looks := false }, kinds := [], alts := [], laidByText := true, laidKinds := [.data], laidTests := true, laidLooks := .later }
def MachineRoundTripCardSaid : Prop := Claim7.holds Tryd.pinned (.plain (OpenSpec.ofChange machineRoundTripSpec)) machineRoundTripCard

/-- THE TIED CARD OF 'fullinglaw29.MachineDistinct'. -/
def machineDistinctCard : Claim7 := { stood := { row := machineDistinctRow, standIns := [], harness := (true, "c10988018bca0cec1a8d7a284354e3fe566a96283b8f3b98c3b6e3fc165a9ede"), looks := false }, kinds := [], alts := [], laidByText := true, laidKinds := [.data], laidTests := true, laidLooks := .later }
def MachineDistinctCardSaid : Prop := Claim7.holds Tryd.pinned (.plain (OpenSpec.ofChange machineDistinctSpec)) machineDistinctCard

/-- THE TIED CARD OF 'fullinglaw29.MachineOperands'. -/
def machineOperandsCard : Claim7 := { stood := { row := machineOperandsRow, standIns := [], harness := (true, "c10988018bca0cec1a8d7a284354e3fe566a96283b8f3b98c3b6e3fc165a9ede"), looks := false }, kinds := [], alts := [], laidByText := true, laidKinds := [.data], laidTests := true, laidLooks := .later }
def MachineOperandsCardSaid : Prop := Claim7.holds Tryd.pinned (.plain (OpenSpec.ofChange machineOperandsSpec)) machineOperandsCard

/-- THE SECOND FORM's CARD OF 'fullinglaw29.MachineExamples'. -/
def machineExamplesUptoCard : Claim7 := { stood := { row := machineExamplesUptoRow, standIns := [], harness := (true, "c10988018bca0cec1a8d7a284354e3fe566a96283b8f3b98c3b6e3fc165a9ede"), looks := false }, kinds := [], alts := [], laidByText := true, laidKinds := [.data], laidTests := true, laidLooks := .later }
def MachineExamplesUptoCardSaid : Prop := Claim7.holds Tryd.pinned (.plain (OpenSpec.upto machineExamplesSpec)) machineExamplesUptoCard

/-- THE SECOND FORM's CARD OF 'fullinglaw29.MachineInfo'. -/
def machineInfoUptoCard : Claim7 := { stood := { row := machineInfoUptoRow, standIns := [], harness := (true, "c10988018bca0cec1a8d7a284354e3fe566a96283b8f3b98c3b6e3fc165a9ede"), looks := false }, kinds := [], alts := [], laidByText := true, laidKinds := [.data], laidTests := true, laidLooks := .later }
def MachineInfoUptoCardSaid : Prop := Claim7.holds Tryd.pinned (.plain (OpenSpec.upto machineInfoSpec)) machineInfoUptoCard

/-- THE SECOND FORM's CARD OF 'fullinglaw29.MachineText'. -/
def machineTextUptoCard : Claim7 := { stood := { row := machineTextUptoRow, standIns := [], harness := (true, "c10988018bca0cec1a8d7a284354e3fe566a96283b8f3b98c3b6e3fc165a9ede"), looks := false }, kinds := [], alts := [], laidByText := true, laidKinds := [.data], laidTests := true, laidLooks := .later }
def MachineTextUptoCardSaid : Prop := Claim7.holds Tryd.pinned (.plain (OpenSpec.upto machineTextSpec)) machineTextUptoCard

/-- THE SECOND FORM's CARD OF 'fullinglaw29.MachineRoundTrip'. -/
def machineRoundTripUptoCard : Claim7 := { stood := { row := machineRoundTripUptoRow, standIns := [], harness := (true, "c10988018bca0cec1a8d7a284354e3fe566a96283b8f3b98c3b6e3fc165a9ede"), looks := false }, kinds := [], alts := [], laidByText := true, laidKinds := [.data], laidTests := true, laidLooks := .later }
def MachineRoundTripUptoCardSaid : Prop := Claim7.holds Tryd.pinned (.plain (OpenSpec.upto machineRoundTripSpec)) machineRoundTripUptoCard

/-- THE SECOND FORM's CARD OF 'fullinglaw29.MachineDistinct'. -/
def machineDistinctUptoCard : Claim7 := { stood := { row := machineDistinctUptoRow, standIns := [], harness := (true, "c10988018bca0cec1a8d7a284354e3fe566a96283b8f3b98c3b6e3fc165a9ede"), looks := false }, kinds := [], alts := [], laidByText := true, laidKinds := [.data], laidTests := true, laidLooks := .later }
def MachineDistinctUptoCardSaid : Prop := Claim7.holds Tryd.pinned (.plain (OpenSpec.upto machineDistinctSpec)) machineDistinctUptoCard

/-- THE SECOND FORM's CARD OF 'fullinglaw29.MachineOperands'. -/
def machineOperandsUptoCard : Claim7 := { stood := { row := machineOperandsUptoRow, standIns := [], harness := (true, "c10988018bca0cec1a8d7a284354e3fe566a96283b8f3b98c3b6e3fc165a9ede"), looks := false }, kinds := [], alts := [], laidByText := true, laidKinds := [.data], laidTests := true, laidLooks := .later }
def MachineOperandsUptoCardSaid : Prop := Claim7.holds Tryd.pinned (.plain (OpenSpec.upto machineOperandsSpec)) machineOperandsUptoCard
end Rows
end Go.Proofs.YtfmcdageaananaaDoor
