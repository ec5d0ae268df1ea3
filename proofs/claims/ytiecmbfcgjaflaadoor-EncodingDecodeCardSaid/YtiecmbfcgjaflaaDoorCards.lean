/-
  DERIVED. GIVEN WITH THE SEED: THE CARDS: each row of YtiecmbfcgjaflaaDoorRows.lean that lists a variable, with what it lists TIED to the program's text (the seventh form; the later family's looks); each row that meets fmt, with fmt's text TOLD by the authors' own Lean function (tested against real Go, not proved from fmt's source: count such statements apart). THE CARD IS WHAT COUNTS. Prove the row's statement (the work); the ties are given (YtiecmbfcgjaflaaDoorTie.lean); close each card by the builder's one call (the guide's Derived/Test/ToyasCard.lean, 'card_holds'). Laid BY PROGRAM, IN A SANDBOX (cutbox-door.mjs). By AI agents, Wed Nov 11 2026. No macro, syntax, notation, axiom, sorry.
-/
import Derived.Test.YtiecmbfcgjaflaaDoorRows
import GoSem.ClaimSeven
namespace Go.Proofs.YtiecmbfcgjaflaaDoor
namespace Rows

/-- THE TIED CARD OF 'fullinglaw30.EncodingExamples'. -/
def encodingExamplesCard : Claim7 := { stood := { row := encodingExamplesRow, standIns := [], harness := (true, "a9ec583b7d4a383affa9fee27ac4b0093601cfba1aed9f757439e71f7db81d01"), looks := false }, kinds := [], alts := [], laidByText := true, laidKinds := [.data], laidTests := true, laidLooks := .later }
def EncodingExamplesCardSaid : Prop := Claim7.holds Tryd.pinned (.plain (OpenSpec.ofChange encodingExamplesSpec)) encodingExamplesCard

/-- THE TIED CARD OF 'fullinglaw30.EncodingEncode'. -/
def encodingEncodeCard : Claim7 := { stood := { row := encodingEncodeRow, standIns := [], harness := (true, "a9ec583b7d4a383affa9fee27ac4b0093601cfba1aed9f757439e71f7db81d01"), looks := false }, kinds := [], alts := [], laidByText := true, laidKinds := [.data], laidTests := true, laidLooks := .later }
def EncodingEncodeCardSaid : Prop := Claim7.holds Tryd.pinned (.plain (OpenSpec.ofChange encodingEncodeSpec)) encodingEncodeCard

/-- THE TIED CARD OF 'fullinglaw30.EncodingUnique'. -/
def encodingUniqueCard : Claim7 := { stood := { row := encodingUniqueRow, standIns := [], harness := (true, "a9ec583b7d4a383affa9fee27ac4b0093601cfba1aed9f757439e71f7db81d01"), looks := false }, kinds := [], alts := [], laidByText := true, laidKinds := [.data], laidTests := true, laidLooks := .later }
def EncodingUniqueCardSaid : Prop := Claim7.holds Tryd.pinned (.plain (OpenSpec.ofChange encodingUniqueSpec)) encodingUniqueCard

/-- THE TIED CARD OF 'fullinglaw30.EncodingFlip'. -/
def encodingFlipCard : Claim7 := { stood := { row := encodingFlipRow, standIns := [], harness := (true, "a9ec583b7d4a383affa9fee27ac4b0093601cfba1aed9f757439e71f7db81d01"), looks := false }, kinds := [], alts := [], laidByText := true, laidKinds := [.data], laidTests := true, laidLooks := .later }
def EncodingFlipCardSaid : Prop := Claim7.holds Tryd.pinned (.plain (OpenSpec.ofChange encodingFlipSpec)) encodingFlipCard

/-- THE TIED CARD OF 'fullinglaw30.EncodingDecode'. -/
def encodingDecodeCard : Claim7 := { stood := { row := encodingDecodeRow, standIns := [], harness := (true, "a9ec583b7d4a383affa9fee27ac4b0093601cfba1aed9f757439e71f7db81d01"), looks := false }, kinds := [], alts := [], laidByText := true, laidKinds := [.data], laidTests := true, laidLooks := .later }
def EncodingDecodeCardSaid : Prop := Claim7.holds Tryd.pinned (.plain (OpenSpec.ofChange encodingDecodeSpec)) encodingDecodeCard

/-- THE TIED CARD OF 'fullinglaw30.EncodingRoundTrip'. -/
def encodingRoundTripCard : Claim7 := { stood := { row := encodingRoundTripRow, standIns := [], harness := (true, "a9ec583b7d4a383affa9fee27ac4b0093601cfba1aed9f757439e71f7db81d01"), looks := false }, kinds := [], alts := [], laidByText := true, laidKinds := [.data], laidTests := true, laidLooks := .later }
def EncodingRoundTripCardSaid : Prop := Claim7.holds Tryd.pinned (.plain (OpenSpec.ofChange encodingRoundTripSpec)) encodingRoundTripCard

/-- THE TIED CARD OF 'fullinglaw30.EncodingValid'. -/
def encodingValidCard : Claim7 := { stood := { row := encodingValidRow, standIns := [], harness := (true, "a9ec583b7d4a383affa9fee27ac4b0093601cfba1aed9f757439e71f7db81d01"), looks := false }, kinds := [], alts := [], laidByText := true, laidKinds := [.data], laidTests := true, laidLooks := .later }
def EncodingValidCardSaid : Prop := Claim7.holds Tryd.pinned (.plain (OpenSpec.ofChange encodingValidSpec)) encodingValidCard

/-- THE SECOND FORM's CARD OF 'fullinglaw30.EncodingExamples'. -/
def encodingExamplesUptoCard : Claim7 := { stood := { row := encodingExamplesUptoRow, standIns := [], harness := (true, "a9ec583b7d4a383affa9fee27ac4b0093601cfba1aed9f757439e71f7db81d01"), looks := false }, kinds := [], alts := [], laidByText := true, laidKinds := [.data], laidTests := true, laidLooks := .later }
def EncodingExamplesUptoCardSaid : Prop := Claim7.holds Tryd.pinned (.plain (OpenSpec.upto encodingExamplesSpec)) encodingExamplesUptoCard

/-- THE SECOND FORM's CARD OF 'fullinglaw30.EncodingEncode'. -/
def encodingEncodeUptoCard : Claim7 := { stood := { row := encodingEncodeUptoRow, standIns := [], harness := (true, "a9ec583b7d4a383affa9fee27ac4b0093601cfba1aed9f757439e71f7db81d01"), looks := false }, kinds := [], alts := [], laidByText := true, laidKinds := [.data], laidTests := true, laidLooks := .later }
def EncodingEncodeUptoCardSaid : Prop := Claim7.holds Tryd.pinned (.plain (OpenSpec.upto encodingEncodeSpec)) encodingEncodeUptoCard

/-- THE SECOND FORM's CARD OF 'fullinglaw30.EncodingUnique'. -/
def encodingUniqueUptoCard : Claim7 := { stood := { row := encodingUniqueUptoRow, standIns := [], harness := (true, "a9ec583b7d4a383affa9fee27ac4b0093601cfba1aed9f757439e71f7db81d01"), looks := false }, kinds := [], alts := [], laidByText := true, laidKinds := [.data], laidTests := true, laidLooks := .later }
def EncodingUniqueUptoCardSaid : Prop := Claim7.holds Tryd.pinned (.plain (OpenSpec.upto encodingUniqueSpec)) encodingUniqueUptoCard

/-- THE SECOND FORM's CARD OF 'fullinglaw30.EncodingFlip'. -/
def encodingFlipUptoCard : Claim7 := { stood := { row := encodingFlipUptoRow, standIns := [], harness := (true, "a9ec583b7d4a383affa9fee27ac4b0093601cfba1aed9f757439e71f7db81d01"), looks := false }, kinds := [], alts := [], laidByText := true, laidKinds := [.data], laidTests := true, laidLooks := .later }
def EncodingFlipUptoCardSaid : Prop := Claim7.holds Tryd.pinned (.plain (OpenSpec.upto encodingFlipSpec)) encodingFlipUptoCard

/-- THE SECOND FORM's CARD OF 'fullinglaw30.EncodingDecode'. -/
def encodingDecodeUptoCard : Claim7 := { stood := { row := encodingDecodeUptoRow, standIns := [], harness := (true, "a9ec583b7d4a383affa9fee27ac4b0093601cfba1aed9f757439e71f7db81d01"), looks := false }, kinds := [], alts := [], laidByText := true, laidKinds := [.data], laidTests := true, laidLooks := .later }
def EncodingDecodeUptoCardSaid : Prop := Claim7.holds Tryd.pinned (.plain (OpenSpec.upto encodingDecodeSpec)) encodingDecodeUptoCard

/-- THE SECOND FORM's CARD OF 'fullinglaw30.EncodingRoundTrip'. -/
def encodingRoundTripUptoCard : Claim7 := { stood := { row := encodingRoundTripUptoRow, standIns := [], harness := (true, "a9ec583b7d4a383affa9fee27ac4b0093601cfba1aed9f757439e71f7db81d01"), looks := false }, kinds := [], alts := [], laidByText := true, laidKinds := [.data], laidTests := true, laidLooks := .later }
def EncodingRoundTripUptoCardSaid : Prop := Claim7.holds Tryd.pinned (.plain (OpenSpec.upto encodingRoundTripSpec)) encodingRoundTripUptoCard

/-- THE SECOND FORM's CARD OF 'fullinglaw30.EncodingValid'. -/
def encodingValidUptoCard : Claim7 := { stood := { row := encodingValidUptoRow, standIns := [], harness := (true, "a9ec583b7d4a383affa9fee27ac4b0093601cfba1aed9f757439e71f7db81d01"), looks := false }, kinds := [], alts := [], laidByText := true, laidKinds := [.data], laidTests := true, laidLooks := .later }
def EncodingValidUptoCardSaid : Prop := Claim7.holds Tryd.pinned (.plain (OpenSpec.upto encodingValidSpec)) encodingValidUptoCard
end Rows
end Go.Proofs.YtiecmbfcgjaflaaDoor
