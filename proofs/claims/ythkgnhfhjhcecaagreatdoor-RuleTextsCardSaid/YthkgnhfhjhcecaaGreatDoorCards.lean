/-
  DERIVED. GIVEN WITH THE SEED: THE CARDS: each row of YthkgnhfhjhcecaaGreatDoorRows.lean that lists a variable, with what it lists TIED to the program's text (the seventh form; the later family's looks); each row that meets fmt, with fmt's text TOLD by the authors' own Lean function (tested against real Go, not proved from fmt's source: count such statements apart). THE CARD IS WHAT COUNTS. Prove the row's statement (the work); the ties are given (YthkgnhfhjhcecaaGreatDoorTie.lean); close each card by the builder's one call (the guide's Derived/Test/ToyasCard.lean, 'card_holds'). Laid BY PROGRAM, IN A SANDBOX (cutbox-door.mjs). By AI agents, Wed Nov 11 2026. No macro, syntax, notation, axiom, sorry.
-/
import Derived.Test.YthkgnhfhjhcecaaGreatDoorRows
import GoSem.ClaimSeven
namespace Go.Proofs.YthkgnhfhjhcecaaGreatDoor
namespace Rows

/-- THE TIED CARD OF 'viramalaw05.PropWrites'. -/
def propWritesCard : Claim7 := { stood := { row := propWritesRow, standIns := [], harness := (true, "865959b3fe18a45a1bbebca99319c8464cce926cb20537473c21ca25a58d7eec"), looks := true }, kinds := [], alts := [], laidByText := true, laidKinds := [.data, .handle, .sentinel, .pinned], laidTests := true, laidLooks := .later }
def PropWritesCardSaid : Prop := Claim7.holds Tryz.pinned (.plain (OpenSpec.ofChange propWritesSpec)) propWritesCard

/-- THE TIED CARD OF 'viramalaw05.PropTwo'. -/
def propTwoCard : Claim7 := { stood := { row := propTwoRow, standIns := [], harness := (true, "865959b3fe18a45a1bbebca99319c8464cce926cb20537473c21ca25a58d7eec"), looks := true }, kinds := [], alts := [], laidByText := true, laidKinds := [.data, .handle, .sentinel, .pinned], laidTests := true, laidLooks := .later }
def PropTwoCardSaid : Prop := Claim7.holds Tryz.pinned (.plain (OpenSpec.ofChange propTwoSpec)) propTwoCard

/-- THE TIED CARD OF 'viramalaw05.PropReads'. -/
def propReadsCard : Claim7 := { stood := { row := propReadsRow, standIns := [], harness := (true, "865959b3fe18a45a1bbebca99319c8464cce926cb20537473c21ca25a58d7eec"), looks := true }, kinds := [], alts := [], laidByText := true, laidKinds := [.data, .handle, .sentinel, .pinned], laidTests := true, laidLooks := .later }
def PropReadsCardSaid : Prop := Claim7.holds Tryz.pinned (.plain (OpenSpec.ofChange propReadsSpec)) propReadsCard

/-- THE TIED CARD OF 'viramalaw05.PropSays'. -/
def propSaysCard : Claim7 := { stood := { row := propSaysRow, standIns := [], harness := (true, "865959b3fe18a45a1bbebca99319c8464cce926cb20537473c21ca25a58d7eec"), looks := true }, kinds := [], alts := [], laidByText := true, laidKinds := [.data, .handle, .sentinel, .pinned], laidTests := true, laidLooks := .later }
def PropSaysCardSaid : Prop := Claim7.holds Tryz.pinned (.plain (OpenSpec.ofChange propSaysSpec)) propSaysCard

/-- THE TIED CARD OF 'viramalaw05.PropNamed'. -/
def propNamedCard : Claim7 := { stood := { row := propNamedRow, standIns := [], harness := (true, "865959b3fe18a45a1bbebca99319c8464cce926cb20537473c21ca25a58d7eec"), looks := true }, kinds := [], alts := [], laidByText := true, laidKinds := [.data, .handle, .sentinel, .pinned], laidTests := true, laidLooks := .later }
def PropNamedCardSaid : Prop := Claim7.holds Tryz.pinned (.plain (OpenSpec.ofChange propNamedSpec)) propNamedCard

/-- THE TIED CARD OF 'viramalaw05.PropBack'. -/
def propBackCard : Claim7 := { stood := { row := propBackRow, standIns := [], harness := (true, "865959b3fe18a45a1bbebca99319c8464cce926cb20537473c21ca25a58d7eec"), looks := true }, kinds := [], alts := [], laidByText := true, laidKinds := [.data, .handle, .sentinel, .pinned], laidTests := true, laidLooks := .later }
def PropBackCardSaid : Prop := Claim7.holds Tryz.pinned (.plain (OpenSpec.ofChange propBackSpec)) propBackCard

/-- THE TIED CARD OF 'viramalaw05.PropLoose'. -/
def propLooseCard : Claim7 := { stood := { row := propLooseRow, standIns := [], harness := (true, "865959b3fe18a45a1bbebca99319c8464cce926cb20537473c21ca25a58d7eec"), looks := true }, kinds := [], alts := [], laidByText := true, laidKinds := [.data, .handle, .sentinel, .pinned], laidTests := true, laidLooks := .later }
def PropLooseCardSaid : Prop := Claim7.holds Tryz.pinned (.plain (OpenSpec.ofChange propLooseSpec)) propLooseCard

/-- THE TIED CARD OF 'viramalaw11.RuleTexts'. -/
def ruleTextsCard : Claim7 := { stood := { row := ruleTextsRow, standIns := [], harness := (true, "865959b3fe18a45a1bbebca99319c8464cce926cb20537473c21ca25a58d7eec"), looks := true }, kinds := [], alts := [], laidByText := true, laidKinds := [.data, .handle, .sentinel, .sentinel, .pinned], laidTests := true, laidLooks := .later }
def RuleTextsCardSaid : Prop := Claim7.holds Tryz.pinned (.plain (OpenSpec.ofChange ruleTextsSpec)) ruleTextsCard

/-- THE SECOND FORM's CARD OF 'viramalaw05.PropWrites'. -/
def propWritesUptoCard : Claim7 := { stood := { row := propWritesUptoRow, standIns := [], harness := (true, "865959b3fe18a45a1bbebca99319c8464cce926cb20537473c21ca25a58d7eec"), looks := true }, kinds := [], alts := [], laidByText := true, laidKinds := [.data, .handle, .sentinel, .pinned], laidTests := true, laidLooks := .later }
def PropWritesUptoCardSaid : Prop := Claim7.holds Tryz.pinned (.plain (OpenSpec.upto propWritesSpec)) propWritesUptoCard

/-- THE SECOND FORM's CARD OF 'viramalaw05.PropTwo'. -/
def propTwoUptoCard : Claim7 := { stood := { row := propTwoUptoRow, standIns := [], harness := (true, "865959b3fe18a45a1bbebca99319c8464cce926cb20537473c21ca25a58d7eec"), looks := true }, kinds := [], alts := [], laidByText := true, laidKinds := [.data, .handle, .sentinel, .pinned], laidTests := true, laidLooks := .later }
def PropTwoUptoCardSaid : Prop := Claim7.holds Tryz.pinned (.plain (OpenSpec.upto propTwoSpec)) propTwoUptoCard

/-- THE SECOND FORM's CARD OF 'viramalaw05.PropReads'. -/
def propReadsUptoCard : Claim7 := { stood := { row := propReadsUptoRow, standIns := [], harness := (true, "865959b3fe18a45a1bbebca99319c8464cce926cb20537473c21ca25a58d7eec"), looks := true }, kinds := [], alts := [], laidByText := true, laidKinds := [.data, .handle, .sentinel, .pinned], laidTests := true, laidLooks := .later }
def PropReadsUptoCardSaid : Prop := Claim7.holds Tryz.pinned (.plain (OpenSpec.upto propReadsSpec)) propReadsUptoCard

/-- THE SECOND FORM's CARD OF 'viramalaw05.PropSays'. -/
def propSaysUptoCard : Claim7 := { stood := { row := propSaysUptoRow, standIns := [], harness := (true, "865959b3fe18a45a1bbebca99319c8464cce926cb20537473c21ca25a58d7eec"), looks := true }, kinds := [], alts := [], laidByText := true, laidKinds := [.data, .handle, .sentinel, .pinned], laidTests := true, laidLooks := .later }
def PropSaysUptoCardSaid : Prop := Claim7.holds Tryz.pinned (.plain (OpenSpec.upto propSaysSpec)) propSaysUptoCard

/-- THE SECOND FORM's CARD OF 'viramalaw05.PropNamed'. -/
def propNamedUptoCard : Claim7 := { stood := { row := propNamedUptoRow, standIns := [], harness := (true, "865959b3fe18a45a1bbebca99319c8464cce926cb20537473c21ca25a58d7eec"), looks := true }, kinds := [], alts := [], laidByText := true, laidKinds := [.data, .handle, .sentinel, .pinned], laidTests := true, laidLooks := .later }
def PropNamedUptoCardSaid : Prop := Claim7.holds Tryz.pinned (.plain (OpenSpec.upto propNamedSpec)) propNamedUptoCard

/-- THE SECOND FORM's CARD OF 'viramalaw05.PropBack'. -/
def propBackUptoCard : Claim7 := { stood := { row := propBackUptoRow, standIns := [], harness := (true, "865959b3fe18a45a1bbebca99319c8464cce926cb20537473c21ca25a58d7eec"), looks := true }, kinds := [], alts := [], laidByText := true, laidKinds := [.data, .handle, .sentinel, .pinned], laidTests := true, laidLooks := .later }
def PropBackUptoCardSaid : Prop := Claim7.holds Tryz.pinned (.plain (OpenSpec.upto propBackSpec)) propBackUptoCard

/-- THE SECOND FORM's CARD OF 'viramalaw05.PropLoose'. -/
def propLooseUptoCard : Claim7 := { stood := { row := propLooseUptoRow, standIns := [], harness := (true, "865959b3fe18a45a1bbebca99319c8464cce926cb20537473c21ca25a58d7eec"), looks := true }, kinds := [], alts := [], laidByText := true, laidKinds := [.data, .handle, .sentinel, .pinned], laidTests := true, laidLooks := .later }
def PropLooseUptoCardSaid : Prop := Claim7.holds Tryz.pinned (.plain (OpenSpec.upto propLooseSpec)) propLooseUptoCard

/-- THE SECOND FORM's CARD OF 'viramalaw11.RuleTexts'. -/
def ruleTextsUptoCard : Claim7 := { stood := { row := ruleTextsUptoRow, standIns := [], harness := (true, "865959b3fe18a45a1bbebca99319c8464cce926cb20537473c21ca25a58d7eec"), looks := true }, kinds := [], alts := [], laidByText := true, laidKinds := [.data, .handle, .sentinel, .sentinel, .pinned], laidTests := true, laidLooks := .later }
def RuleTextsUptoCardSaid : Prop := Claim7.holds Tryz.pinned (.plain (OpenSpec.upto ruleTextsSpec)) ruleTextsUptoCard
end Rows
end Go.Proofs.YthkgnhfhjhcecaaGreatDoor
