/-
  DERIVED. GIVEN WITH THE SEED: THE CARDS: each row of YtinicfjmpdofaaaDoorRows.lean that lists a variable, with what it lists TIED to the program's text (the seventh form; the later family's looks); each row that meets fmt, with fmt's text TOLD by the authors' own Lean function (tested against real Go, not proved from fmt's source: count such statements apart). THE CARD IS WHAT COUNTS. Prove the row's statement (the work); the ties are given (YtinicfjmpdofaaaDoorTie.lean); close each card by the builder's one call (the guide's Derived/Test/ToyasCard.lean, 'card_holds'). Laid BY PROGRAM, IN A SANDBOX (cutbox-door.mjs). By AI agents, Wed Nov 11 2026. No macro, syntax, notation, axiom, sorry.
-/
import Derived.Test.YtinicfjmpdofaaaDoorRows
import GoSem.ClaimSeven
namespace Go.Proofs.YtinicfjmpdofaaaDoor
namespace Rows

/-- THE TIED CARD OF 'warpwrightlaw01.ScalarMatchesReference'. -/
def scalarMatchesReferenceCard : Claim7 := { stood := { row := scalarMatchesReferenceRow, standIns := [], harness := (true, "a9a6aa83bf299cf712cd2f3b81a6d789974250dc6b2db2c3f42d32c8718e42fb"), looks := true }, kinds := [], alts := [], laidByText := true, laidKinds := [.data, .data, .data, .sentinel, .sentinel], laidTests := true, laidLooks := .later }
def ScalarMatchesReferenceCardSaid : Prop := Claim7.holds Tryd.pinned (.plain (OpenSpec.ofChange scalarMatchesReferenceSpec)) scalarMatchesReferenceCard

/-- THE TIED CARD OF 'warpwrightlaw01.ScalarRing'. -/
def scalarRingCard : Claim7 := { stood := { row := scalarRingRow, standIns := [], harness := (true, "a9a6aa83bf299cf712cd2f3b81a6d789974250dc6b2db2c3f42d32c8718e42fb"), looks := true }, kinds := [], alts := [], laidByText := true, laidKinds := [.data, .data, .data, .sentinel, .sentinel], laidTests := true, laidLooks := .later }
def ScalarRingCardSaid : Prop := Claim7.holds Tryd.pinned (.plain (OpenSpec.ofChange scalarRingSpec)) scalarRingCard

/-- THE TIED CARD OF 'warpwrightlaw01.ScalarDivides'. -/
def scalarDividesCard : Claim7 := { stood := { row := scalarDividesRow, standIns := [], harness := (true, "a9a6aa83bf299cf712cd2f3b81a6d789974250dc6b2db2c3f42d32c8718e42fb"), looks := true }, kinds := [], alts := [], laidByText := true, laidKinds := [.data, .data, .data, .sentinel, .sentinel], laidTests := true, laidLooks := .later }
def ScalarDividesCardSaid : Prop := Claim7.holds Tryd.pinned (.plain (OpenSpec.ofChange scalarDividesSpec)) scalarDividesCard

/-- THE TIED CARD OF 'warpwrightlaw01.ScalarFixed'. -/
def scalarFixedCard : Claim7 := { stood := { row := scalarFixedRow, standIns := [], harness := (true, "a9a6aa83bf299cf712cd2f3b81a6d789974250dc6b2db2c3f42d32c8718e42fb"), looks := true }, kinds := [], alts := [], laidByText := true, laidKinds := [.data, .data, .data, .sentinel, .sentinel], laidTests := true, laidLooks := .later }
def ScalarFixedCardSaid : Prop := Claim7.holds Tryd.pinned (.plain (OpenSpec.ofChange scalarFixedSpec)) scalarFixedCard

/-- THE TIED CARD OF 'warpwrightlaw01.ScalarBits'. -/
def scalarBitsCard : Claim7 := { stood := { row := scalarBitsRow, standIns := [], harness := (true, "a9a6aa83bf299cf712cd2f3b81a6d789974250dc6b2db2c3f42d32c8718e42fb"), looks := true }, kinds := [], alts := [], laidByText := true, laidKinds := [.data, .data, .data, .sentinel, .sentinel], laidTests := true, laidLooks := .later }
def ScalarBitsCardSaid : Prop := Claim7.holds Tryd.pinned (.plain (OpenSpec.ofChange scalarBitsSpec)) scalarBitsCard

/-- THE TIED CARD OF 'warpwrightlaw01.ScalarOrder'. -/
def scalarOrderCard : Claim7 := { stood := { row := scalarOrderRow, standIns := [], harness := (true, "a9a6aa83bf299cf712cd2f3b81a6d789974250dc6b2db2c3f42d32c8718e42fb"), looks := true }, kinds := [], alts := [], laidByText := true, laidKinds := [.data, .data, .data, .sentinel, .sentinel], laidTests := true, laidLooks := .later }
def ScalarOrderCardSaid : Prop := Claim7.holds Tryd.pinned (.plain (OpenSpec.ofChange scalarOrderSpec)) scalarOrderCard

/-- THE TIED CARD OF 'warpwrightlaw01.ScalarTexts'. -/
def scalarTextsCard : Claim7 := { stood := { row := scalarTextsRow, standIns := [], harness := (true, "a9a6aa83bf299cf712cd2f3b81a6d789974250dc6b2db2c3f42d32c8718e42fb"), looks := true }, kinds := [], alts := [], laidByText := true, laidKinds := [.data, .data, .data, .sentinel, .sentinel], laidTests := true, laidLooks := .later }
def ScalarTextsCardSaid : Prop := Claim7.holds Tryd.pinned (.plain (OpenSpec.ofChange scalarTextsSpec)) scalarTextsCard

/-- THE TIED CARD OF 'warpwrightlaw01.ScalarTypes'. -/
def scalarTypesCard : Claim7 := { stood := { row := scalarTypesRow, standIns := [], harness := (true, "a9a6aa83bf299cf712cd2f3b81a6d789974250dc6b2db2c3f42d32c8718e42fb"), looks := true }, kinds := [], alts := [], laidByText := true, laidKinds := [.data, .data, .data, .sentinel, .sentinel], laidTests := true, laidLooks := .later }
def ScalarTypesCardSaid : Prop := Claim7.holds Tryd.pinned (.plain (OpenSpec.ofChange scalarTypesSpec)) scalarTypesCard

/-- THE SECOND FORM's CARD OF 'warpwrightlaw01.ScalarMatchesReference'. -/
def scalarMatchesReferenceUptoCard : Claim7 := { stood := { row := scalarMatchesReferenceUptoRow, standIns := [], harness := (true, "a9a6aa83bf299cf712cd2f3b81a6d789974250dc6b2db2c3f42d32c8718e42fb"), looks := true }, kinds := [], alts := [], laidByText := true, laidKinds := [.data, .data, .data, .sentinel, .sentinel], laidTests := true, laidLooks := .later }
def ScalarMatchesReferenceUptoCardSaid : Prop := Claim7.holds Tryd.pinned (.plain (OpenSpec.upto scalarMatchesReferenceSpec)) scalarMatchesReferenceUptoCard

/-- THE SECOND FORM's CARD OF 'warpwrightlaw01.ScalarRing'. -/
def scalarRingUptoCard : Claim7 := { stood := { row := scalarRingUptoRow, standIns := [], harness := (true, "a9a6aa83bf299cf712cd2f3b81a6d789974250dc6b2db2c3f42d32c8718e42fb"), looks := true }, kinds := [], alts := [], laidByText := true, laidKinds := [.data, .data, .data, .sentinel, .sentinel], laidTests := true, laidLooks := .later }
def ScalarRingUptoCardSaid : Prop := Claim7.holds Tryd.pinned (.plain (OpenSpec.upto scalarRingSpec)) scalarRingUptoCard

/-- THE SECOND FORM's CARD OF 'warpwrightlaw01.ScalarDivides'. -/
def scalarDividesUptoCard : Claim7 := { stood := { row := scalarDividesUptoRow, standIns := [], harness := (true, "a9a6aa83bf299cf712cd2f3b81a6d789974250dc6b2db2c3f42d32c8718e42fb"), looks := true }, kinds := [], alts := [], laidByText := true, laidKinds := [.data, .data, .data, .sentinel, .sentinel], laidTests := true, laidLooks := .later }
def ScalarDividesUptoCardSaid : Prop := Claim7.holds Tryd.pinned (.plain (OpenSpec.upto scalarDividesSpec)) scalarDividesUptoCard

/-- THE SECOND FORM's CARD OF 'warpwrightlaw01.ScalarFixed'. -/
def scalarFixedUptoCard : Claim7 := { stood := { row := scalarFixedUptoRow, standIns := [], harness := (true, "a9a6aa83bf299cf712cd2f3b81a6d789974250dc6b2db2c3f42d32c8718e42fb"), looks := true }, kinds := [], alts := [], laidByText := true, laidKinds := [.data, .data, .data, .sentinel, .sentinel], laidTests := true, laidLooks := .later }
def ScalarFixedUptoCardSaid : Prop := Claim7.holds Tryd.pinned (.plain (OpenSpec.upto scalarFixedSpec)) scalarFixedUptoCard

/-- THE SECOND FORM's CARD OF 'warpwrightlaw01.ScalarBits'. -/
def scalarBitsUptoCard : Claim7 := { stood := { row := scalarBitsUptoRow, standIns := [], harness := (true, "a9a6aa83bf299cf712cd2f3b81a6d789974250dc6b2db2c3f42d32c8718e42fb"), looks := true }, kinds := [], alts := [], laidByText := true, laidKinds := [.data, .data, .data, .sentinel, .sentinel], laidTests := true, laidLooks := .later }
def ScalarBitsUptoCardSaid : Prop := Claim7.holds Tryd.pinned (.plain (OpenSpec.upto scalarBitsSpec)) scalarBitsUptoCard

/-- THE SECOND FORM's CARD OF 'warpwrightlaw01.ScalarOrder'. -/
def scalarOrderUptoCard : Claim7 := { stood := { row := scalarOrderUptoRow, standIns := [], harness := (true, "a9a6aa83bf299cf712cd2f3b81a6d789974250dc6b2db2c3f42d32c8718e42fb"), looks := true }, kinds := [], alts := [], laidByText := true, laidKinds := [.data, .data, .data, .sentinel, .sentinel], laidTests := true, laidLooks := .later }
def ScalarOrderUptoCardSaid : Prop := Claim7.holds Tryd.pinned (.plain (OpenSpec.upto scalarOrderSpec)) scalarOrderUptoCard

/-- THE SECOND FORM's CARD OF 'warpwrightlaw01.ScalarTexts'. -/
def scalarTextsUptoCard : Claim7 := { stood := { row := scalarTextsUptoRow, standIns := [], harness := (true, "a9a6aa83bf299cf712cd2f3b81a6d789974250dc6b2db2c3f42d32c8718e42fb"), looks := true }, kinds := [], alts := [], laidByText := true, laidKinds := [.data, .data, .data, .sentinel, .sentinel], laidTests := true, laidLooks := .later }
def ScalarTextsUptoCardSaid : Prop := Claim7.holds Tryd.pinned (.plain (OpenSpec.upto scalarTextsSpec)) scalarTextsUptoCard

/-- THE SECOND FORM's CARD OF 'warpwrightlaw01.ScalarTypes'. -/
def scalarTypesUptoCard : Claim7 := { stood := { row := scalarTypesUptoRow, standIns := [], harness := (true, "a9a6aa83bf299cf712cd2f3b81a6d789974250dc6b2db2c3f42d32c8718e42fb"), looks := true }, kinds := [], alts := [], laidByText := true, laidKinds := [.data, .data, .data, .sentinel, .sentinel], laidTests := true, laidLooks := .later }
def ScalarTypesUptoCardSaid : Prop := Claim7.holds Tryd.pinned (.plain (OpenSpec.upto scalarTypesSpec)) scalarTypesUptoCard
end Rows
end Go.Proofs.YtinicfjmpdofaaaDoor
