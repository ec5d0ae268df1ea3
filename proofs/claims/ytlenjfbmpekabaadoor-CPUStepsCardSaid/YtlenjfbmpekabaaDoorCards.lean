/-
  DERIVED. GIVEN WITH THE SEED: THE CARDS: each row of YtlenjfbmpekabaaDoorRows.lean that lists a variable, with what it lists TIED to the program's text (the seventh form; the later family's looks); each row that meets fmt, with fmt's text TOLD by the authors' own Lean function (tested against real Go, not proved from fmt's source: count such statements apart). THE CARD IS WHAT COUNTS. Prove the row's statement (the work); the ties are given (YtlenjfbmpekabaaDoorTie.lean); close each card by the builder's one call (the guide's Derived/Test/ToyasCard.lean, 'card_holds'). Laid BY PROGRAM, IN A SANDBOX (cutbox-door.mjs). By AI agents, Wed Nov 11 2026. No macro, syntax, notation, axiom, sorry.
-/
import Derived.Test.YtlenjfbmpekabaaDoorRows
import GoSem.ClaimSeven
namespace Go.Proofs.YtlenjfbmpekabaaDoor
namespace Rows

/-- THE TIED CARD OF 'fullinglaw30.EncodingValid'. -/
def encodingValidCard : Claim7 := { stood := { row := encodingValidRow, standIns := [], harness := (true, "fa27e683f72f5f433fa5e1edc856eff5c9c4e77bb98f4d292f2c09869e2774f8"), looks := false }, kinds := [], alts := [], laidByText := true, laidKinds := [.data], laidTests := true, laidLooks := .later }
def EncodingValidCardSaid : Prop := Claim7.holds Tryd.pinned (.plain (OpenSpec.ofChange encodingValidSpec)) encodingValidCard

/-- THE TIED CARD OF 'fullinglaw31.CPUErrors'. -/
def cPUErrorsCard : Claim7 := { stood := { row := cPUErrorsRow, standIns := [], harness := (true, "fa27e683f72f5f433fa5e1edc856eff5c9c4e77bb98f4d292f2c09869e2774f8"), looks := false }, kinds := [], alts := [], laidByText := true, laidKinds := [.data], laidTests := true, laidLooks := .later }
def CPUErrorsCardSaid : Prop := Claim7.holds Tryd.pinned (.plain (OpenSpec.ofChange cPUErrorsSpec)) cPUErrorsCard

/-- THE TIED CARD OF 'fullinglaw31.CPURun'. -/
def cPURunCard : Claim7 := { stood := { row := cPURunRow, standIns := [], harness := (true, "fa27e683f72f5f433fa5e1edc856eff5c9c4e77bb98f4d292f2c09869e2774f8"), looks := false }, kinds := [], alts := [], laidByText := true, laidKinds := [.data], laidTests := true, laidLooks := .later }
def CPURunCardSaid : Prop := Claim7.holds Tryd.pinned (.plain (OpenSpec.ofChange cPURunSpec)) cPURunCard

/-- THE TIED CARD OF 'fullinglaw31.CPUFuel'. -/
def cPUFuelCard : Claim7 := { stood := { row := cPUFuelRow, standIns := [], harness := (true, "fa27e683f72f5f433fa5e1edc856eff5c9c4e77bb98f4d292f2c09869e2774f8"), looks := false }, kinds := [], alts := [], laidByText := true, laidKinds := [.data], laidTests := true, laidLooks := .later }
def CPUFuelCardSaid : Prop := Claim7.holds Tryd.pinned (.plain (OpenSpec.ofChange cPUFuelSpec)) cPUFuelCard

/-- THE TIED CARD OF 'fullinglaw31.CPUEnds'. -/
def cPUEndsCard : Claim7 := { stood := { row := cPUEndsRow, standIns := [], harness := (true, "fa27e683f72f5f433fa5e1edc856eff5c9c4e77bb98f4d292f2c09869e2774f8"), looks := false }, kinds := [], alts := [], laidByText := true, laidKinds := [.data], laidTests := true, laidLooks := .later }
def CPUEndsCardSaid : Prop := Claim7.holds Tryd.pinned (.plain (OpenSpec.ofChange cPUEndsSpec)) cPUEndsCard

/-- THE TIED CARD OF 'fullinglaw31.CPUInputs'. -/
def cPUInputsCard : Claim7 := { stood := { row := cPUInputsRow, standIns := [], harness := (true, "fa27e683f72f5f433fa5e1edc856eff5c9c4e77bb98f4d292f2c09869e2774f8"), looks := false }, kinds := [], alts := [], laidByText := true, laidKinds := [.data], laidTests := true, laidLooks := .later }
def CPUInputsCardSaid : Prop := Claim7.holds Tryd.pinned (.plain (OpenSpec.ofChange cPUInputsSpec)) cPUInputsCard

/-- THE TIED CARD OF 'fullinglaw31.CPUSteps'. -/
def cPUStepsCard : Claim7 := { stood := { row := cPUStepsRow, standIns := [], harness := (true, "fa27e683f72f5f433fa5e1edc856eff5c9c4e77bb98f4d292f2c09869e2774f8"), looks := false }, kinds := [], alts := [], laidByText := true, laidKinds := [.data], laidTests := true, laidLooks := .later }
def CPUStepsCardSaid : Prop := Claim7.holds Tryd.pinned (.plain (OpenSpec.ofChange cPUStepsSpec)) cPUStepsCard

/-- THE TIED CARD OF 'fullinglaw31.CPUEffects'. -/
def cPUEffectsCard : Claim7 := { stood := { row := cPUEffectsRow, standIns := [], harness := (true, "fa27e683f72f5f433fa5e1edc856eff5c9c4e77bb98f4d292f2c09869e2774f8"), looks := false }, kinds := [], alts := [], laidByText := true, laidKinds := [.data], laidTests := true, laidLooks := .later }
def CPUEffectsCardSaid : Prop := Claim7.holds Tryd.pinned (.plain (OpenSpec.ofChange cPUEffectsSpec)) cPUEffectsCard

/-- THE SECOND FORM's CARD OF 'fullinglaw30.EncodingValid'. -/
def encodingValidUptoCard : Claim7 := { stood := { row := encodingValidUptoRow, standIns := [], harness := (true, "fa27e683f72f5f433fa5e1edc856eff5c9c4e77bb98f4d292f2c09869e2774f8"), looks := false }, kinds := [], alts := [], laidByText := true, laidKinds := [.data], laidTests := true, laidLooks := .later }
def EncodingValidUptoCardSaid : Prop := Claim7.holds Tryd.pinned (.plain (OpenSpec.upto encodingValidSpec)) encodingValidUptoCard

/-- THE SECOND FORM's CARD OF 'fullinglaw31.CPUErrors'. -/
def cPUErrorsUptoCard : Claim7 := { stood := { row := cPUErrorsUptoRow, standIns := [], harness := (true, "fa27e683f72f5f433fa5e1edc856eff5c9c4e77bb98f4d292f2c09869e2774f8"), looks := false }, kinds := [], alts := [], laidByText := true, laidKinds := [.data], laidTests := true, laidLooks := .later }
def CPUErrorsUptoCardSaid : Prop := Claim7.holds Tryd.pinned (.plain (OpenSpec.upto cPUErrorsSpec)) cPUErrorsUptoCard

/-- THE SECOND FORM's CARD OF 'fullinglaw31.CPURun'. -/
def cPURunUptoCard : Claim7 := { stood := { row := cPURunUptoRow, standIns := [], harness := (true, "fa27e683f72f5f433fa5e1edc856eff5c9c4e77bb98f4d292f2c09869e2774f8"), looks := false }, kinds := [], alts := [], laidByText := true, laidKinds := [.data], laidTests := true, laidLooks := .later }
def CPURunUptoCardSaid : Prop := Claim7.holds Tryd.pinned (.plain (OpenSpec.upto cPURunSpec)) cPURunUptoCard

/-- THE SECOND FORM's CARD OF 'fullinglaw31.CPUFuel'. -/
def cPUFuelUptoCard : Claim7 := { stood := { row := cPUFuelUptoRow, standIns := [], harness := (true, "fa27e683f72f5f433fa5e1edc856eff5c9c4e77bb98f4d292f2c09869e2774f8"), looks := false }, kinds := [], alts := [], laidByText := true, laidKinds := [.data], laidTests := true, laidLooks := .later }
def CPUFuelUptoCardSaid : Prop := Claim7.holds Tryd.pinned (.plain (OpenSpec.upto cPUFuelSpec)) cPUFuelUptoCard

/-- THE SECOND FORM's CARD OF 'fullinglaw31.CPUEnds'. -/
def cPUEndsUptoCard : Claim7 := { stood := { row := cPUEndsUptoRow, standIns := [], harness := (true, "fa27e683f72f5f433fa5e1edc856eff5c9c4e77bb98f4d292f2c09869e2774f8"), looks := false }, kinds := [], alts := [], laidByText := true, laidKinds := [.data], laidTests := true, laidLooks := .later }
def CPUEndsUptoCardSaid : Prop := Claim7.holds Tryd.pinned (.plain (OpenSpec.upto cPUEndsSpec)) cPUEndsUptoCard

/-- THE SECOND FORM's CARD OF 'fullinglaw31.CPUInputs'. -/
def cPUInputsUptoCard : Claim7 := { stood := { row := cPUInputsUptoRow, standIns := [], harness := (true, "fa27e683f72f5f433fa5e1edc856eff5c9c4e77bb98f4d292f2c09869e2774f8"), looks := false }, kinds := [], alts := [], laidByText := true, laidKinds := [.data], laidTests := true, laidLooks := .later }
def CPUInputsUptoCardSaid : Prop := Claim7.holds Tryd.pinned (.plain (OpenSpec.upto cPUInputsSpec)) cPUInputsUptoCard

/-- THE SECOND FORM's CARD OF 'fullinglaw31.CPUSteps'. -/
def cPUStepsUptoCard : Claim7 := { stood := { row := cPUStepsUptoRow, standIns := [], harness := (true, "fa27e683f72f5f433fa5e1edc856eff5c9c4e77bb98f4d292f2c09869e2774f8"), looks := false }, kinds := [], alts := [], laidByText := true, laidKinds := [.data], laidTests := true, laidLooks := .later }
def CPUStepsUptoCardSaid : Prop := Claim7.holds Tryd.pinned (.plain (OpenSpec.upto cPUStepsSpec)) cPUStepsUptoCard

/-- THE SECOND FORM's CARD OF 'fullinglaw31.CPUEffects'. -/
def cPUEffectsUptoCard : Claim7 := { stood := { row := cPUEffectsUptoRow, standIns := [], harness := (true, "fa27e683f72f5f433fa5e1edc856eff5c9c4e77bb98f4d292f2c09869e2774f8"), looks := false }, kinds := [], alts := [], laidByText := true, laidKinds := [.data], laidTests := true, laidLooks := .later }
def CPUEffectsUptoCardSaid : Prop := Claim7.holds Tryd.pinned (.plain (OpenSpec.upto cPUEffectsSpec)) cPUEffectsUptoCard
end Rows
end Go.Proofs.YtlenjfbmpekabaaDoor
