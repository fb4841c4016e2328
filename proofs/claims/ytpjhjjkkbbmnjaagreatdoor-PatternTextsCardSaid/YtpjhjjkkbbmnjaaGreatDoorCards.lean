/-
  DERIVED. GIVEN WITH THE SEED: THE CARDS: each row of YtpjhjjkkbbmnjaaGreatDoorRows.lean that lists a variable, with what it lists TIED to the program's text (the seventh form; the later family's looks); each row that meets fmt, with fmt's text TOLD by the authors' own Lean function (tested against real Go, not proved from fmt's source: count such statements apart). THE CARD IS WHAT COUNTS. Prove the row's statement (the work); the ties are given (YtpjhjjkkbbmnjaaGreatDoorTie.lean); close each card by the builder's one call (the guide's Derived/Test/ToyasCard.lean, 'card_holds'). Laid BY PROGRAM, IN A SANDBOX (cutbox-door.mjs). By AI agents, Wed Nov 11 2026. No macro, syntax, notation, axiom, sorry.
-/
import Derived.Test.YtpjhjjkkbbmnjaaGreatDoorRows
import GoSem.ClaimSeven
namespace Go.Proofs.YtpjhjjkkbbmnjaaGreatDoor
namespace Rows

/-- THE TIED CARD OF 'viramalaw09.PatternTexts'. -/
def patternTextsCard : Claim7 := { stood := { row := patternTextsRow, standIns := [], harness := (true, "f3439994263bda936d81294eb39ac78299b5f0291b6d31f5858efdaf1e51f421"), looks := true }, kinds := [], alts := [], laidByText := true, laidKinds := [.data, .handle, .sentinel, .sentinel, .pinned], laidTests := true, laidLooks := .later }
def PatternTextsCardSaid : Prop := Claim7.holds Tryz.pinned (.plain (OpenSpec.ofChange patternTextsSpec)) patternTextsCard

/-- THE TIED CARD OF 'viramalaw09.PatternFits'. -/
def patternFitsCard : Claim7 := { stood := { row := patternFitsRow, standIns := [], harness := (true, "f3439994263bda936d81294eb39ac78299b5f0291b6d31f5858efdaf1e51f421"), looks := true }, kinds := [], alts := [], laidByText := true, laidKinds := [.data, .handle, .sentinel, .sentinel, .pinned], laidTests := true, laidLooks := .later }
def PatternFitsCardSaid : Prop := Claim7.holds Tryz.pinned (.plain (OpenSpec.ofChange patternFitsSpec)) patternFitsCard

/-- THE TIED CARD OF 'viramalaw09.PatternBack'. -/
def patternBackCard : Claim7 := { stood := { row := patternBackRow, standIns := [], harness := (true, "f3439994263bda936d81294eb39ac78299b5f0291b6d31f5858efdaf1e51f421"), looks := true }, kinds := [], alts := [], laidByText := true, laidKinds := [.data, .handle, .sentinel, .sentinel, .pinned], laidTests := true, laidLooks := .later }
def PatternBackCardSaid : Prop := Claim7.holds Tryz.pinned (.plain (OpenSpec.ofChange patternBackSpec)) patternBackCard

/-- THE TIED CARD OF 'viramalaw11.RuleCuts'. -/
def ruleCutsCard : Claim7 := { stood := { row := ruleCutsRow, standIns := [], harness := (true, "f3439994263bda936d81294eb39ac78299b5f0291b6d31f5858efdaf1e51f421"), looks := true }, kinds := [], alts := [], laidByText := true, laidKinds := [.data, .handle, .sentinel, .sentinel, .pinned], laidTests := true, laidLooks := .later }
def RuleCutsCardSaid : Prop := Claim7.holds Tryz.pinned (.plain (OpenSpec.ofChange ruleCutsSpec)) ruleCutsCard

/-- THE TIED CARD OF 'viramalaw11.RuleFirst'. -/
def ruleFirstCard : Claim7 := { stood := { row := ruleFirstRow, standIns := [], harness := (true, "f3439994263bda936d81294eb39ac78299b5f0291b6d31f5858efdaf1e51f421"), looks := true }, kinds := [], alts := [], laidByText := true, laidKinds := [.data, .handle, .sentinel, .sentinel, .pinned], laidTests := true, laidLooks := .later }
def RuleFirstCardSaid : Prop := Claim7.holds Tryz.pinned (.plain (OpenSpec.ofChange ruleFirstSpec)) ruleFirstCard

/-- THE TIED CARD OF 'viramalaw11.RuleSides'. -/
def ruleSidesCard : Claim7 := { stood := { row := ruleSidesRow, standIns := [], harness := (true, "f3439994263bda936d81294eb39ac78299b5f0291b6d31f5858efdaf1e51f421"), looks := true }, kinds := [], alts := [], laidByText := true, laidKinds := [.data, .handle, .sentinel, .sentinel, .pinned], laidTests := true, laidLooks := .later }
def RuleSidesCardSaid : Prop := Claim7.holds Tryz.pinned (.plain (OpenSpec.ofChange ruleSidesSpec)) ruleSidesCard

/-- THE TIED CARD OF 'viramalaw11.RuleMore'. -/
def ruleMoreCard : Claim7 := { stood := { row := ruleMoreRow, standIns := [], harness := (true, "f3439994263bda936d81294eb39ac78299b5f0291b6d31f5858efdaf1e51f421"), looks := true }, kinds := [], alts := [], laidByText := true, laidKinds := [.data, .handle, .sentinel, .sentinel, .pinned], laidTests := true, laidLooks := .later }
def RuleMoreCardSaid : Prop := Claim7.holds Tryz.pinned (.plain (OpenSpec.ofChange ruleMoreSpec)) ruleMoreCard

/-- THE TIED CARD OF 'viramalaw11.RuleTurned'. -/
def ruleTurnedCard : Claim7 := { stood := { row := ruleTurnedRow, standIns := [], harness := (true, "f3439994263bda936d81294eb39ac78299b5f0291b6d31f5858efdaf1e51f421"), looks := true }, kinds := [], alts := [], laidByText := true, laidKinds := [.data, .handle, .sentinel, .sentinel, .pinned], laidTests := true, laidLooks := .later }
def RuleTurnedCardSaid : Prop := Claim7.holds Tryz.pinned (.plain (OpenSpec.ofChange ruleTurnedSpec)) ruleTurnedCard

/-- THE TIED CARD OF 'viramalaw11.RuleTwice'. -/
def ruleTwiceCard : Claim7 := { stood := { row := ruleTwiceRow, standIns := [], harness := (true, "f3439994263bda936d81294eb39ac78299b5f0291b6d31f5858efdaf1e51f421"), looks := true }, kinds := [], alts := [], laidByText := true, laidKinds := [.data, .handle, .sentinel, .sentinel, .pinned], laidTests := true, laidLooks := .later }
def RuleTwiceCardSaid : Prop := Claim7.holds Tryz.pinned (.plain (OpenSpec.ofChange ruleTwiceSpec)) ruleTwiceCard

/-- THE TIED CARD OF 'viramalaw11.RuleTexts'. -/
def ruleTextsCard : Claim7 := { stood := { row := ruleTextsRow, standIns := [], harness := (true, "f3439994263bda936d81294eb39ac78299b5f0291b6d31f5858efdaf1e51f421"), looks := true }, kinds := [], alts := [], laidByText := true, laidKinds := [.data, .handle, .sentinel, .sentinel, .pinned], laidTests := true, laidLooks := .later }
def RuleTextsCardSaid : Prop := Claim7.holds Tryz.pinned (.plain (OpenSpec.ofChange ruleTextsSpec)) ruleTextsCard

/-- THE TIED CARD OF 'viramalaw11.RuleBack'. -/
def ruleBackCard : Claim7 := { stood := { row := ruleBackRow, standIns := [], harness := (true, "f3439994263bda936d81294eb39ac78299b5f0291b6d31f5858efdaf1e51f421"), looks := true }, kinds := [], alts := [], laidByText := true, laidKinds := [.data, .handle, .sentinel, .sentinel, .pinned], laidTests := true, laidLooks := .later }
def RuleBackCardSaid : Prop := Claim7.holds Tryz.pinned (.plain (OpenSpec.ofChange ruleBackSpec)) ruleBackCard

/-- THE SECOND FORM's CARD OF 'viramalaw09.PatternTexts'. -/
def patternTextsUptoCard : Claim7 := { stood := { row := patternTextsUptoRow, standIns := [], harness := (true, "f3439994263bda936d81294eb39ac78299b5f0291b6d31f5858efdaf1e51f421"), looks := true }, kinds := [], alts := [], laidByText := true, laidKinds := [.data, .handle, .sentinel, .sentinel, .pinned], laidTests := true, laidLooks := .later }
def PatternTextsUptoCardSaid : Prop := Claim7.holds Tryz.pinned (.plain (OpenSpec.upto patternTextsSpec)) patternTextsUptoCard

/-- THE SECOND FORM's CARD OF 'viramalaw09.PatternFits'. -/
def patternFitsUptoCard : Claim7 := { stood := { row := patternFitsUptoRow, standIns := [], harness := (true, "f3439994263bda936d81294eb39ac78299b5f0291b6d31f5858efdaf1e51f421"), looks := true }, kinds := [], alts := [], laidByText := true, laidKinds := [.data, .handle, .sentinel, .sentinel, .pinned], laidTests := true, laidLooks := .later }
def PatternFitsUptoCardSaid : Prop := Claim7.holds Tryz.pinned (.plain (OpenSpec.upto patternFitsSpec)) patternFitsUptoCard

/-- THE SECOND FORM's CARD OF 'viramalaw09.PatternBack'. -/
def patternBackUptoCard : Claim7 := { stood := { row := patternBackUptoRow, standIns := [], harness := (true, "f3439994263bda936d81294eb39ac78299b5f0291b6d31f5858efdaf1e51f421"), looks := true }, kinds := [], alts := [], laidByText := true, laidKinds := [.data, .handle, .sentinel, .sentinel, .pinned], laidTests := true, laidLooks := .later }
def PatternBackUptoCardSaid : Prop := Claim7.holds Tryz.pinned (.plain (OpenSpec.upto patternBackSpec)) patternBackUptoCard

/-- THE SECOND FORM's CARD OF 'viramalaw11.RuleCuts'. -/
def ruleCutsUptoCard : Claim7 := { stood := { row := ruleCutsUptoRow, standIns := [], harness := (true, "f3439994263bda936d81294eb39ac78299b5f0291b6d31f5858efdaf1e51f421"), looks := true }, kinds := [], alts := [], laidByText := true, laidKinds := [.data, .handle, .sentinel, .sentinel, .pinned], laidTests := true, laidLooks := .later }
def RuleCutsUptoCardSaid : Prop := Claim7.holds Tryz.pinned (.plain (OpenSpec.upto ruleCutsSpec)) ruleCutsUptoCard

/-- THE SECOND FORM's CARD OF 'viramalaw11.RuleFirst'. -/
def ruleFirstUptoCard : Claim7 := { stood := { row := ruleFirstUptoRow, standIns := [], harness := (true, "f3439994263bda936d81294eb39ac78299b5f0291b6d31f5858efdaf1e51f421"), looks := true }, kinds := [], alts := [], laidByText := true, laidKinds := [.data, .handle, .sentinel, .sentinel, .pinned], laidTests := true, laidLooks := .later }
def RuleFirstUptoCardSaid : Prop := Claim7.holds Tryz.pinned (.plain (OpenSpec.upto ruleFirstSpec)) ruleFirstUptoCard

/-- THE SECOND FORM's CARD OF 'viramalaw11.RuleSides'. -/
def ruleSidesUptoCard : Claim7 := { stood := { row := ruleSidesUptoRow, standIns := [], harness := (true, "f3439994263bda936d81294eb39ac78299b5f0291b6d31f5858efdaf1e51f421"), looks := true }, kinds := [], alts := [], laidByText := true, laidKinds := [.data, .handle, .sentinel, .sentinel, .pinned], laidTests := true, laidLooks := .later }
def RuleSidesUptoCardSaid : Prop := Claim7.holds Tryz.pinned (.plain (OpenSpec.upto ruleSidesSpec)) ruleSidesUptoCard

/-- THE SECOND FORM's CARD OF 'viramalaw11.RuleMore'. -/
def ruleMoreUptoCard : Claim7 := { stood := { row := ruleMoreUptoRow, standIns := [], harness := (true, "f3439994263bda936d81294eb39ac78299b5f0291b6d31f5858efdaf1e51f421"), looks := true }, kinds := [], alts := [], laidByText := true, laidKinds := [.data, .handle, .sentinel, .sentinel, .pinned], laidTests := true, laidLooks := .later }
def RuleMoreUptoCardSaid : Prop := Claim7.holds Tryz.pinned (.plain (OpenSpec.upto ruleMoreSpec)) ruleMoreUptoCard

/-- THE SECOND FORM's CARD OF 'viramalaw11.RuleTurned'. -/
def ruleTurnedUptoCard : Claim7 := { stood := { row := ruleTurnedUptoRow, standIns := [], harness := (true, "f3439994263bda936d81294eb39ac78299b5f0291b6d31f5858efdaf1e51f421"), looks := true }, kinds := [], alts := [], laidByText := true, laidKinds := [.data, .handle, .sentinel, .sentinel, .pinned], laidTests := true, laidLooks := .later }
def RuleTurnedUptoCardSaid : Prop := Claim7.holds Tryz.pinned (.plain (OpenSpec.upto ruleTurnedSpec)) ruleTurnedUptoCard

/-- THE SECOND FORM's CARD OF 'viramalaw11.RuleTwice'. -/
def ruleTwiceUptoCard : Claim7 := { stood := { row := ruleTwiceUptoRow, standIns := [], harness := (true, "f3439994263bda936d81294eb39ac78299b5f0291b6d31f5858efdaf1e51f421"), looks := true }, kinds := [], alts := [], laidByText := true, laidKinds := [.data, .handle, .sentinel, .sentinel, .pinned], laidTests := true, laidLooks := .later }
def RuleTwiceUptoCardSaid : Prop := Claim7.holds Tryz.pinned (.plain (OpenSpec.upto ruleTwiceSpec)) ruleTwiceUptoCard

/-- THE SECOND FORM's CARD OF 'viramalaw11.RuleTexts'. -/
def ruleTextsUptoCard : Claim7 := { stood := { row := ruleTextsUptoRow, standIns := [], harness := (true, "f3439994263bda936d81294eb39ac78299b5f0291b6d31f5858efdaf1e51f421"), looks := true }, kinds := [], alts := [], laidByText := true, laidKinds := [.data, .handle, .sentinel, .sentinel, .pinned], laidTests := true, laidLooks := .later }
def RuleTextsUptoCardSaid : Prop := Claim7.holds Tryz.pinned (.plain (OpenSpec.upto ruleTextsSpec)) ruleTextsUptoCard

/-- THE SECOND FORM's CARD OF 'viramalaw11.RuleBack'. -/
def ruleBackUptoCard : Claim7 := { stood := { row := ruleBackUptoRow, standIns := [], harness := (true, "f3439994263bda936d81294eb39ac78299b5f0291b6d31f5858efdaf1e51f421"), looks := true }, kinds := [], alts := [], laidByText := true, laidKinds := [.data, .handle, .sentinel, .sentinel, .pinned], laidTests := true, laidLooks := .later }
def RuleBackUptoCardSaid : Prop := Claim7.holds Tryz.pinned (.plain (OpenSpec.upto ruleBackSpec)) ruleBackUptoCard
end Rows
end Go.Proofs.YtpjhjjkkbbmnjaaGreatDoor
