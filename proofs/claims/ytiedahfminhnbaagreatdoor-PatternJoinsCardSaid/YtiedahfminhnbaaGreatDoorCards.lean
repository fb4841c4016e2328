/-
  DERIVED. GIVEN WITH THE SEED: THE CARDS: each row of YtiedahfminhnbaaGreatDoorRows.lean that lists a variable, with what it lists TIED to the program's text (the seventh form; the later family's looks); each row that meets fmt, with fmt's text TOLD by the authors' own Lean function (tested against real Go, not proved from fmt's source: count such statements apart). THE CARD IS WHAT COUNTS. Prove the row's statement (the work); the ties are given (YtiedahfminhnbaaGreatDoorTie.lean); close each card by the builder's one call (the guide's Derived/Test/ToyasCard.lean, 'card_holds'). Laid BY PROGRAM, IN A SANDBOX (cutbox-door.mjs). By AI agents, Wed Nov 11 2026. No macro, syntax, notation, axiom, sorry.
-/
import Derived.Test.YtiedahfminhnbaaGreatDoorRows
import GoSem.ClaimSeven
namespace Go.Proofs.YtiedahfminhnbaaGreatDoor
namespace Rows

/-- THE TIED CARD OF 'viramalaw09.PatternTexts'. -/
def patternTextsCard : Claim7 := { stood := { row := patternTextsRow, standIns := [], harness := (true, "00e1f29f1fbb42d0868345ff4493b5e6436657b1233ddb4a5330a61d3dc9b97a"), looks := true }, kinds := [], alts := [], laidByText := true, laidKinds := [.data, .handle, .sentinel, .sentinel, .pinned], laidTests := true, laidLooks := .later }
def PatternTextsCardSaid : Prop := Claim7.holds Tryz.pinned (.plain (OpenSpec.ofChange patternTextsSpec)) patternTextsCard

/-- THE TIED CARD OF 'viramalaw09.PatternWhole'. -/
def patternWholeCard : Claim7 := { stood := { row := patternWholeRow, standIns := [], harness := (true, "00e1f29f1fbb42d0868345ff4493b5e6436657b1233ddb4a5330a61d3dc9b97a"), looks := true }, kinds := [], alts := [], laidByText := true, laidKinds := [.data, .handle, .sentinel, .sentinel, .pinned], laidTests := true, laidLooks := .later }
def PatternWholeCardSaid : Prop := Claim7.holds Tryz.pinned (.plain (OpenSpec.ofChange patternWholeSpec)) patternWholeCard

/-- THE TIED CARD OF 'viramalaw09.PatternJoins'. -/
def patternJoinsCard : Claim7 := { stood := { row := patternJoinsRow, standIns := [], harness := (true, "00e1f29f1fbb42d0868345ff4493b5e6436657b1233ddb4a5330a61d3dc9b97a"), looks := true }, kinds := [], alts := [], laidByText := true, laidKinds := [.data, .handle, .sentinel, .sentinel, .pinned], laidTests := true, laidLooks := .later }
def PatternJoinsCardSaid : Prop := Claim7.holds Tryz.pinned (.plain (OpenSpec.ofChange patternJoinsSpec)) patternJoinsCard

/-- THE TIED CARD OF 'viramalaw09.PatternWider'. -/
def patternWiderCard : Claim7 := { stood := { row := patternWiderRow, standIns := [], harness := (true, "00e1f29f1fbb42d0868345ff4493b5e6436657b1233ddb4a5330a61d3dc9b97a"), looks := true }, kinds := [], alts := [], laidByText := true, laidKinds := [.data, .handle, .sentinel, .sentinel, .pinned], laidTests := true, laidLooks := .later }
def PatternWiderCardSaid : Prop := Claim7.holds Tryz.pinned (.plain (OpenSpec.ofChange patternWiderSpec)) patternWiderCard

/-- THE TIED CARD OF 'viramalaw09.PatternItem'. -/
def patternItemCard : Claim7 := { stood := { row := patternItemRow, standIns := [], harness := (true, "00e1f29f1fbb42d0868345ff4493b5e6436657b1233ddb4a5330a61d3dc9b97a"), looks := true }, kinds := [], alts := [], laidByText := true, laidKinds := [.data, .handle, .sentinel, .sentinel, .pinned], laidTests := true, laidLooks := .later }
def PatternItemCardSaid : Prop := Claim7.holds Tryz.pinned (.plain (OpenSpec.ofChange patternItemSpec)) patternItemCard

/-- THE TIED CARD OF 'viramalaw09.PatternFits'. -/
def patternFitsCard : Claim7 := { stood := { row := patternFitsRow, standIns := [], harness := (true, "00e1f29f1fbb42d0868345ff4493b5e6436657b1233ddb4a5330a61d3dc9b97a"), looks := true }, kinds := [], alts := [], laidByText := true, laidKinds := [.data, .handle, .sentinel, .sentinel, .pinned], laidTests := true, laidLooks := .later }
def PatternFitsCardSaid : Prop := Claim7.holds Tryz.pinned (.plain (OpenSpec.ofChange patternFitsSpec)) patternFitsCard

/-- THE TIED CARD OF 'viramalaw09.PatternBack'. -/
def patternBackCard : Claim7 := { stood := { row := patternBackRow, standIns := [], harness := (true, "00e1f29f1fbb42d0868345ff4493b5e6436657b1233ddb4a5330a61d3dc9b97a"), looks := true }, kinds := [], alts := [], laidByText := true, laidKinds := [.data, .handle, .sentinel, .sentinel, .pinned], laidTests := true, laidLooks := .later }
def PatternBackCardSaid : Prop := Claim7.holds Tryz.pinned (.plain (OpenSpec.ofChange patternBackSpec)) patternBackCard

/-- THE SECOND FORM's CARD OF 'viramalaw09.PatternTexts'. -/
def patternTextsUptoCard : Claim7 := { stood := { row := patternTextsUptoRow, standIns := [], harness := (true, "00e1f29f1fbb42d0868345ff4493b5e6436657b1233ddb4a5330a61d3dc9b97a"), looks := true }, kinds := [], alts := [], laidByText := true, laidKinds := [.data, .handle, .sentinel, .sentinel, .pinned], laidTests := true, laidLooks := .later }
def PatternTextsUptoCardSaid : Prop := Claim7.holds Tryz.pinned (.plain (OpenSpec.upto patternTextsSpec)) patternTextsUptoCard

/-- THE SECOND FORM's CARD OF 'viramalaw09.PatternWhole'. -/
def patternWholeUptoCard : Claim7 := { stood := { row := patternWholeUptoRow, standIns := [], harness := (true, "00e1f29f1fbb42d0868345ff4493b5e6436657b1233ddb4a5330a61d3dc9b97a"), looks := true }, kinds := [], alts := [], laidByText := true, laidKinds := [.data, .handle, .sentinel, .sentinel, .pinned], laidTests := true, laidLooks := .later }
def PatternWholeUptoCardSaid : Prop := Claim7.holds Tryz.pinned (.plain (OpenSpec.upto patternWholeSpec)) patternWholeUptoCard

/-- THE SECOND FORM's CARD OF 'viramalaw09.PatternJoins'. -/
def patternJoinsUptoCard : Claim7 := { stood := { row := patternJoinsUptoRow, standIns := [], harness := (true, "00e1f29f1fbb42d0868345ff4493b5e6436657b1233ddb4a5330a61d3dc9b97a"), looks := true }, kinds := [], alts := [], laidByText := true, laidKinds := [.data, .handle, .sentinel, .sentinel, .pinned], laidTests := true, laidLooks := .later }
def PatternJoinsUptoCardSaid : Prop := Claim7.holds Tryz.pinned (.plain (OpenSpec.upto patternJoinsSpec)) patternJoinsUptoCard

/-- THE SECOND FORM's CARD OF 'viramalaw09.PatternWider'. -/
def patternWiderUptoCard : Claim7 := { stood := { row := patternWiderUptoRow, standIns := [], harness := (true, "00e1f29f1fbb42d0868345ff4493b5e6436657b1233ddb4a5330a61d3dc9b97a"), looks := true }, kinds := [], alts := [], laidByText := true, laidKinds := [.data, .handle, .sentinel, .sentinel, .pinned], laidTests := true, laidLooks := .later }
def PatternWiderUptoCardSaid : Prop := Claim7.holds Tryz.pinned (.plain (OpenSpec.upto patternWiderSpec)) patternWiderUptoCard

/-- THE SECOND FORM's CARD OF 'viramalaw09.PatternItem'. -/
def patternItemUptoCard : Claim7 := { stood := { row := patternItemUptoRow, standIns := [], harness := (true, "00e1f29f1fbb42d0868345ff4493b5e6436657b1233ddb4a5330a61d3dc9b97a"), looks := true }, kinds := [], alts := [], laidByText := true, laidKinds := [.data, .handle, .sentinel, .sentinel, .pinned], laidTests := true, laidLooks := .later }
def PatternItemUptoCardSaid : Prop := Claim7.holds Tryz.pinned (.plain (OpenSpec.upto patternItemSpec)) patternItemUptoCard

/-- THE SECOND FORM's CARD OF 'viramalaw09.PatternFits'. -/
def patternFitsUptoCard : Claim7 := { stood := { row := patternFitsUptoRow, standIns := [], harness := (true, "00e1f29f1fbb42d0868345ff4493b5e6436657b1233ddb4a5330a61d3dc9b97a"), looks := true }, kinds := [], alts := [], laidByText := true, laidKinds := [.data, .handle, .sentinel, .sentinel, .pinned], laidTests := true, laidLooks := .later }
def PatternFitsUptoCardSaid : Prop := Claim7.holds Tryz.pinned (.plain (OpenSpec.upto patternFitsSpec)) patternFitsUptoCard

/-- THE SECOND FORM's CARD OF 'viramalaw09.PatternBack'. -/
def patternBackUptoCard : Claim7 := { stood := { row := patternBackUptoRow, standIns := [], harness := (true, "00e1f29f1fbb42d0868345ff4493b5e6436657b1233ddb4a5330a61d3dc9b97a"), looks := true }, kinds := [], alts := [], laidByText := true, laidKinds := [.data, .handle, .sentinel, .sentinel, .pinned], laidTests := true, laidLooks := .later }
def PatternBackUptoCardSaid : Prop := Claim7.holds Tryz.pinned (.plain (OpenSpec.upto patternBackSpec)) patternBackUptoCard
end Rows
end Go.Proofs.YtiedahfminhnbaaGreatDoor
