/-
  DERIVED. GIVEN WITH THE SEED: THE CARDS: each row of YtokjbgcmfinnaaaDoorRows.lean that lists a variable, with what it lists TIED to the program's text (the seventh form; the later family's looks); each row that meets fmt, with fmt's text TOLD by the authors' own Lean function (tested against real Go, not proved from fmt's source: count such statements apart). THE CARD IS WHAT COUNTS. Prove the row's statement (the work); the ties are given (YtokjbgcmfinnaaaDoorTie.lean); close each card by the builder's one call (the guide's Derived/Test/ToyasCard.lean, 'card_holds'). Laid BY PROGRAM, IN A SANDBOX (cutbox-door.mjs). By AI agents, Wed Nov 11 2026. No macro, syntax, notation, axiom, sorry.
-/
import Derived.Test.YtokjbgcmfinnaaaDoorRows
import GoSem.ClaimSeven
namespace Go.Proofs.YtokjbgcmfinnaaaDoor
namespace Rows

/-- THE TIED CARD OF 'fullinglaw31.CPUExamples'. -/
def cPUExamplesCard : Claim7 := { stood := { row := cPUExamplesRow, standIns := [], harness := (true, "3f1f00ab564ebaeefae7922ed122ec7c9620cfe184f8cc1d32638d23ab74c5ee"), looks := false }, kinds := [], alts := [], laidByText := true, laidKinds := [.data], laidTests := true, laidLooks := .later }
def CPUExamplesCardSaid : Prop := Claim7.holds Tryd.pinned (.plain (OpenSpec.ofChange cPUExamplesSpec)) cPUExamplesCard

/-- THE TIED CARD OF 'fullinglaw31.CPUErrors'. -/
def cPUErrorsCard : Claim7 := { stood := { row := cPUErrorsRow, standIns := [], harness := (true, "3f1f00ab564ebaeefae7922ed122ec7c9620cfe184f8cc1d32638d23ab74c5ee"), looks := false }, kinds := [], alts := [], laidByText := true, laidKinds := [.data], laidTests := true, laidLooks := .later }
def CPUErrorsCardSaid : Prop := Claim7.holds Tryd.pinned (.plain (OpenSpec.ofChange cPUErrorsSpec)) cPUErrorsCard

/-- THE TIED CARD OF 'fullinglaw31.CPURun'. -/
def cPURunCard : Claim7 := { stood := { row := cPURunRow, standIns := [], harness := (true, "3f1f00ab564ebaeefae7922ed122ec7c9620cfe184f8cc1d32638d23ab74c5ee"), looks := false }, kinds := [], alts := [], laidByText := true, laidKinds := [.data], laidTests := true, laidLooks := .later }
def CPURunCardSaid : Prop := Claim7.holds Tryd.pinned (.plain (OpenSpec.ofChange cPURunSpec)) cPURunCard

/-- THE TIED CARD OF 'fullinglaw31.CPUFuel'. -/
def cPUFuelCard : Claim7 := { stood := { row := cPUFuelRow, standIns := [], harness := (true, "3f1f00ab564ebaeefae7922ed122ec7c9620cfe184f8cc1d32638d23ab74c5ee"), looks := false }, kinds := [], alts := [], laidByText := true, laidKinds := [.data], laidTests := true, laidLooks := .later }
def CPUFuelCardSaid : Prop := Claim7.holds Tryd.pinned (.plain (OpenSpec.ofChange cPUFuelSpec)) cPUFuelCard

/-- THE TIED CARD OF 'fullinglaw31.CPUEnds'. -/
def cPUEndsCard : Claim7 := { stood := { row := cPUEndsRow, standIns := [], harness := (true, "3f1f00ab564ebaeefae7922ed122ec7c9620cfe184f8cc1d32638d23ab74c5ee"), looks := false }, kinds := [], alts := [], laidByText := true, laidKinds := [.data], laidTests := true, laidLooks := .later }
def CPUEndsCardSaid : Prop := Claim7.holds Tryd.pinned (.plain (OpenSpec.ofChange cPUEndsSpec)) cPUEndsCard

/-- THE TIED CARD OF 'fullinglaw31.CPUInputs'. -/
def cPUInputsCard : Claim7 := { stood := { row := cPUInputsRow, standIns := [], harness := (true, "3f1f00ab564ebaeefae7922ed122ec7c9620cfe184f8cc1d32638d23ab74c5ee"), looks := false }, kinds := [], alts := [], laidByText := true, laidKinds := [.data], laidTests := true, laidLooks := .later }
def CPUInputsCardSaid : Prop := Claim7.holds Tryd.pinned (.plain (OpenSpec.ofChange cPUInputsSpec)) cPUInputsCard

/-- THE TIED CARD OF 'fullinglaw31.CPUSteps'. -/
def cPUStepsCard : Claim7 := { stood := { row := cPUStepsRow, standIns := [], harness := (true, "3f1f00ab564ebaeefae7922ed122ec7c9620cfe184f8cc1d32638d23ab74c5ee"), looks := false }, kinds := [], alts := [], laidByText := true, laidKinds := [.data], laidTests := true, laidLooks := .later }
def CPUStepsCardSaid : Prop := Claim7.holds Tryd.pinned (.plain (OpenSpec.ofChange cPUStepsSpec)) cPUStepsCard

/-- THE TIED CARD OF 'fullinglaw31.CPUEffects'. -/
def cPUEffectsCard : Claim7 := { stood := { row := cPUEffectsRow, standIns := [], harness := (true, "3f1f00ab564ebaeefae7922ed122ec7c9620cfe184f8cc1d32638d23ab74c5ee"), looks := false }, kinds := [], alts := [], laidByText := true, laidKinds := [.data], laidTests := true, laidLooks := .later }
def CPUEffectsCardSaid : Prop := Claim7.holds Tryd.pinned (.plain (OpenSpec.ofChange cPUEffectsSpec)) cPUEffectsCard

/-- THE SECOND FORM's CARD OF 'fullinglaw31.CPUExamples'. -/
def cPUExamplesUptoCard : Claim7 := { stood := { row := cPUExamplesUptoRow, standIns := [], harness := (true, "3f1f00ab564ebaeefae7922ed122ec7c9620cfe184f8cc1d32638d23ab74c5ee"), looks := false }, kinds := [], alts := [], laidByText := true, laidKinds := [.data], laidTests := true, laidLooks := .later }
def CPUExamplesUptoCardSaid : Prop := Claim7.holds Tryd.pinned (.plain (OpenSpec.upto cPUExamplesSpec)) cPUExamplesUptoCard

/-- THE SECOND FORM's CARD OF 'fullinglaw31.CPUErrors'. -/
def cPUErrorsUptoCard : Claim7 := { stood := { row := cPUErrorsUptoRow, standIns := [], harness := (true, "3f1f00ab564ebaeefae7922ed122ec7c9620cfe184f8cc1d32638d23ab74c5ee"), looks := false }, kinds := [], alts := [], laidByText := true, laidKinds := [.data], laidTests := true, laidLooks := .later }
def CPUErrorsUptoCardSaid : Prop := Claim7.holds Tryd.pinned (.plain (OpenSpec.upto cPUErrorsSpec)) cPUErrorsUptoCard

/-- THE SECOND FORM's CARD OF 'fullinglaw31.CPURun'. -/
def cPURunUptoCard : Claim7 := { stood := { row := cPURunUptoRow, standIns := [], harness := (true, "3f1f00ab564ebaeefae7922ed122ec7c9620cfe184f8cc1d32638d23ab74c5ee"), looks := false }, kinds := [], alts := [], laidByText := true, laidKinds := [.data], laidTests := true, laidLooks := .later }
def CPURunUptoCardSaid : Prop := Claim7.holds Tryd.pinned (.plain (OpenSpec.upto cPURunSpec)) cPURunUptoCard

/-- THE SECOND FORM's CARD OF 'fullinglaw31.CPUFuel'. -/
def cPUFuelUptoCard : Claim7 := { stood := { row := cPUFuelUptoRow, standIns := [], harness := (true, "3f1f00ab564ebaeefae7922ed122ec7c9620cfe184f8cc1d32638d23ab74c5ee"), looks := false }, kinds := [], alts := [], laidByText := true, laidKinds := [.data], laidTests := true, laidLooks := .later }
def CPUFuelUptoCardSaid : Prop := Claim7.holds Tryd.pinned (.plain (OpenSpec.upto cPUFuelSpec)) cPUFuelUptoCard

/-- THE SECOND FORM's CARD OF 'fullinglaw31.CPUEnds'. -/
def cPUEndsUptoCard : Claim7 := { stood := { row := cPUEndsUptoRow, standIns := [], harness := (true, "3f1f00ab564ebaeefae7922ed122ec7c9620cfe184f8cc1d32638d23ab74c5ee"), looks := false }, kinds := [], alts := [], laidByText := true, laidKinds := [.data], laidTests := true, laidLooks := .later }
def CPUEndsUptoCardSaid : Prop := Claim7.holds Tryd.pinned (.plain (OpenSpec.upto cPUEndsSpec)) cPUEndsUptoCard

/-- THE SECOND FORM's CARD OF 'fullinglaw31.CPUInputs'. -/
def cPUInputsUptoCard : Claim7 := { stood := { row := cPUInputsUptoRow, standIns := [], harness := (true, "3f1f00ab564ebaeefae7922ed122ec7c9620cfe184f8cc1d32638d23ab74c5ee"), looks := false }, kinds := [], alts := [], laidByText := true, laidKinds := [.data], laidTests := true, laidLooks := .later }
def CPUInputsUptoCardSaid : Prop := Claim7.holds Tryd.pinned (.plain (OpenSpec.upto cPUInputsSpec)) cPUInputsUptoCard

/-- THE SECOND FORM's CARD OF 'fullinglaw31.CPUSteps'. -/
def cPUStepsUptoCard : Claim7 := { stood := { row := cPUStepsUptoRow, standIns := [], harness := (true, "3f1f00ab564ebaeefae7922ed122ec7c9620cfe184f8cc1d32638d23ab74c5ee"), looks := false }, kinds := [], alts := [], laidByText := true, laidKinds := [.data], laidTests := true, laidLooks := .later }
def CPUStepsUptoCardSaid : Prop := Claim7.holds Tryd.pinned (.plain (OpenSpec.upto cPUStepsSpec)) cPUStepsUptoCard

/-- THE SECOND FORM's CARD OF 'fullinglaw31.CPUEffects'. -/
def cPUEffectsUptoCard : Claim7 := { stood := { row := cPUEffectsUptoRow, standIns := [], harness := (true, "3f1f00ab564ebaeefae7922ed122ec7c9620cfe184f8cc1d32638d23ab74c5ee"), looks := false }, kinds := [], alts := [], laidByText := true, laidKinds := [.data], laidTests := true, laidLooks := .later }
def CPUEffectsUptoCardSaid : Prop := Claim7.holds Tryd.pinned (.plain (OpenSpec.upto cPUEffectsSpec)) cPUEffectsUptoCard
end Rows
end Go.Proofs.YtokjbgcmfinnaaaDoor
