/-
  DERIVED. GIVEN WITH THE SEED: THE CARDS: each row of YtjbeaheenfcgdaaGreatDoorRows.lean that lists a variable, with what it lists TIED to the program's text (the seventh form; the later family's looks); each row that meets fmt, with fmt's text TOLD by the authors' own Lean function (tested against real Go, not proved from fmt's source: count such statements apart). THE CARD IS WHAT COUNTS. Prove the row's statement (the work); the ties are given (YtjbeaheenfcgdaaGreatDoorTie.lean); close each card by the builder's one call (the guide's Derived/Test/ToyasCard.lean, 'card_holds'). Laid BY PROGRAM, IN A SANDBOX (cutbox-door.mjs). By AI agents, Wed Nov 11 2026. No macro, syntax, notation, axiom, sorry.
-/
import Derived.Test.YtjbeaheenfcgdaaGreatDoorRows
import GoSem.ClaimSeven
namespace Go.Proofs.YtjbeaheenfcgdaaGreatDoor
namespace Rows

/-- THE TIED CARD OF 'viramalaw05.PropReads'. -/
def propReadsCard : Claim7 := { stood := { row := propReadsRow, standIns := [], harness := (true, "fff8911dbad99978d22468c38c03ea7cf60215aaed4f667c212fe979b0fddc08"), looks := true }, kinds := [], alts := [], laidByText := true, laidKinds := [.data, .handle, .sentinel, .pinned], laidTests := true, laidLooks := .later }
def PropReadsCardSaid : Prop := Claim7.holds Tryz.pinned (.plain (OpenSpec.ofChange propReadsSpec)) propReadsCard

/-- THE TIED CARD OF 'viramalaw15.WidthMakes'. -/
def widthMakesCard : Claim7 := { stood := { row := widthMakesRow, standIns := [], harness := (true, "fff8911dbad99978d22468c38c03ea7cf60215aaed4f667c212fe979b0fddc08"), looks := true }, kinds := [], alts := [], laidByText := true, laidKinds := [.data, .handle, .sentinel, .sentinel, .sentinel, .sentinel, .sentinel, .sentinel, .sentinel, .sentinel, .pinned], laidTests := true, laidLooks := .later }
def WidthMakesCardSaid : Prop := Claim7.holds Tryz.pinned (.plain (OpenSpec.ofChange widthMakesSpec)) widthMakesCard

/-- THE TIED CARD OF 'viramalaw15.WidthTells'. -/
def widthTellsCard : Claim7 := { stood := { row := widthTellsRow, standIns := [], harness := (true, "fff8911dbad99978d22468c38c03ea7cf60215aaed4f667c212fe979b0fddc08"), looks := true }, kinds := [], alts := [], laidByText := true, laidKinds := [.data, .handle, .sentinel, .sentinel, .sentinel, .sentinel, .sentinel, .sentinel, .sentinel, .sentinel, .pinned], laidTests := true, laidLooks := .later }
def WidthTellsCardSaid : Prop := Claim7.holds Tryz.pinned (.plain (OpenSpec.ofChange widthTellsSpec)) widthTellsCard

/-- THE TIED CARD OF 'viramalaw15.WidthWide'. -/
def widthWideCard : Claim7 := { stood := { row := widthWideRow, standIns := [], harness := (true, "fff8911dbad99978d22468c38c03ea7cf60215aaed4f667c212fe979b0fddc08"), looks := true }, kinds := [], alts := [], laidByText := true, laidKinds := [.data, .handle, .sentinel, .sentinel, .sentinel, .sentinel, .sentinel, .sentinel, .sentinel, .sentinel, .pinned], laidTests := true, laidLooks := .later }
def WidthWideCardSaid : Prop := Claim7.holds Tryz.pinned (.plain (OpenSpec.ofChange widthWideSpec)) widthWideCard

/-- THE TIED CARD OF 'viramalaw15.WidthLonger'. -/
def widthLongerCard : Claim7 := { stood := { row := widthLongerRow, standIns := [], harness := (true, "fff8911dbad99978d22468c38c03ea7cf60215aaed4f667c212fe979b0fddc08"), looks := true }, kinds := [], alts := [], laidByText := true, laidKinds := [.data, .handle, .sentinel, .sentinel, .sentinel, .sentinel, .sentinel, .sentinel, .sentinel, .sentinel, .pinned], laidTests := true, laidLooks := .later }
def WidthLongerCardSaid : Prop := Claim7.holds Tryz.pinned (.plain (OpenSpec.ofChange widthLongerSpec)) widthLongerCard

/-- THE TIED CARD OF 'viramalaw15.WidthNone'. -/
def widthNoneCard : Claim7 := { stood := { row := widthNoneRow, standIns := [], harness := (true, "fff8911dbad99978d22468c38c03ea7cf60215aaed4f667c212fe979b0fddc08"), looks := true }, kinds := [], alts := [], laidByText := true, laidKinds := [.data, .handle, .sentinel, .sentinel, .sentinel, .sentinel, .sentinel, .sentinel, .sentinel, .sentinel, .pinned], laidTests := true, laidLooks := .later }
def WidthNoneCardSaid : Prop := Claim7.holds Tryz.pinned (.plain (OpenSpec.ofChange widthNoneSpec)) widthNoneCard

/-- THE TIED CARD OF 'viramalaw15.WidthCounts'. -/
def widthCountsCard : Claim7 := { stood := { row := widthCountsRow, standIns := [], harness := (true, "fff8911dbad99978d22468c38c03ea7cf60215aaed4f667c212fe979b0fddc08"), looks := true }, kinds := [], alts := [], laidByText := true, laidKinds := [.data, .handle, .sentinel, .sentinel, .sentinel, .sentinel, .sentinel, .sentinel, .sentinel, .sentinel, .pinned], laidTests := true, laidLooks := .later }
def WidthCountsCardSaid : Prop := Claim7.holds Tryz.pinned (.plain (OpenSpec.ofChange widthCountsSpec)) widthCountsCard

/-- THE TIED CARD OF 'viramalaw15.WidthSums'. -/
def widthSumsCard : Claim7 := { stood := { row := widthSumsRow, standIns := [], harness := (true, "fff8911dbad99978d22468c38c03ea7cf60215aaed4f667c212fe979b0fddc08"), looks := true }, kinds := [], alts := [], laidByText := true, laidKinds := [.data, .handle, .sentinel, .sentinel, .sentinel, .sentinel, .sentinel, .sentinel, .sentinel, .sentinel, .pinned], laidTests := true, laidLooks := .later }
def WidthSumsCardSaid : Prop := Claim7.holds Tryz.pinned (.plain (OpenSpec.ofChange widthSumsSpec)) widthSumsCard

/-- THE TIED CARD OF 'viramalaw15.WidthFits'. -/
def widthFitsCard : Claim7 := { stood := { row := widthFitsRow, standIns := [], harness := (true, "fff8911dbad99978d22468c38c03ea7cf60215aaed4f667c212fe979b0fddc08"), looks := true }, kinds := [], alts := [], laidByText := true, laidKinds := [.data, .handle, .sentinel, .sentinel, .sentinel, .sentinel, .sentinel, .sentinel, .sentinel, .sentinel, .pinned], laidTests := true, laidLooks := .later }
def WidthFitsCardSaid : Prop := Claim7.holds Tryz.pinned (.plain (OpenSpec.ofChange widthFitsSpec)) widthFitsCard

/-- THE SECOND FORM's CARD OF 'viramalaw05.PropReads'. -/
def propReadsUptoCard : Claim7 := { stood := { row := propReadsUptoRow, standIns := [], harness := (true, "fff8911dbad99978d22468c38c03ea7cf60215aaed4f667c212fe979b0fddc08"), looks := true }, kinds := [], alts := [], laidByText := true, laidKinds := [.data, .handle, .sentinel, .pinned], laidTests := true, laidLooks := .later }
def PropReadsUptoCardSaid : Prop := Claim7.holds Tryz.pinned (.plain (OpenSpec.upto propReadsSpec)) propReadsUptoCard

/-- THE SECOND FORM's CARD OF 'viramalaw15.WidthMakes'. -/
def widthMakesUptoCard : Claim7 := { stood := { row := widthMakesUptoRow, standIns := [], harness := (true, "fff8911dbad99978d22468c38c03ea7cf60215aaed4f667c212fe979b0fddc08"), looks := true }, kinds := [], alts := [], laidByText := true, laidKinds := [.data, .handle, .sentinel, .sentinel, .sentinel, .sentinel, .sentinel, .sentinel, .sentinel, .sentinel, .pinned], laidTests := true, laidLooks := .later }
def WidthMakesUptoCardSaid : Prop := Claim7.holds Tryz.pinned (.plain (OpenSpec.upto widthMakesSpec)) widthMakesUptoCard

/-- THE SECOND FORM's CARD OF 'viramalaw15.WidthTells'. -/
def widthTellsUptoCard : Claim7 := { stood := { row := widthTellsUptoRow, standIns := [], harness := (true, "fff8911dbad99978d22468c38c03ea7cf60215aaed4f667c212fe979b0fddc08"), looks := true }, kinds := [], alts := [], laidByText := true, laidKinds := [.data, .handle, .sentinel, .sentinel, .sentinel, .sentinel, .sentinel, .sentinel, .sentinel, .sentinel, .pinned], laidTests := true, laidLooks := .later }
def WidthTellsUptoCardSaid : Prop := Claim7.holds Tryz.pinned (.plain (OpenSpec.upto widthTellsSpec)) widthTellsUptoCard

/-- THE SECOND FORM's CARD OF 'viramalaw15.WidthWide'. -/
def widthWideUptoCard : Claim7 := { stood := { row := widthWideUptoRow, standIns := [], harness := (true, "fff8911dbad99978d22468c38c03ea7cf60215aaed4f667c212fe979b0fddc08"), looks := true }, kinds := [], alts := [], laidByText := true, laidKinds := [.data, .handle, .sentinel, .sentinel, .sentinel, .sentinel, .sentinel, .sentinel, .sentinel, .sentinel, .pinned], laidTests := true, laidLooks := .later }
def WidthWideUptoCardSaid : Prop := Claim7.holds Tryz.pinned (.plain (OpenSpec.upto widthWideSpec)) widthWideUptoCard

/-- THE SECOND FORM's CARD OF 'viramalaw15.WidthLonger'. -/
def widthLongerUptoCard : Claim7 := { stood := { row := widthLongerUptoRow, standIns := [], harness := (true, "fff8911dbad99978d22468c38c03ea7cf60215aaed4f667c212fe979b0fddc08"), looks := true }, kinds := [], alts := [], laidByText := true, laidKinds := [.data, .handle, .sentinel, .sentinel, .sentinel, .sentinel, .sentinel, .sentinel, .sentinel, .sentinel, .pinned], laidTests := true, laidLooks := .later }
def WidthLongerUptoCardSaid : Prop := Claim7.holds Tryz.pinned (.plain (OpenSpec.upto widthLongerSpec)) widthLongerUptoCard

/-- THE SECOND FORM's CARD OF 'viramalaw15.WidthNone'. -/
def widthNoneUptoCard : Claim7 := { stood := { row := widthNoneUptoRow, standIns := [], harness := (true, "fff8911dbad99978d22468c38c03ea7cf60215aaed4f667c212fe979b0fddc08"), looks := true }, kinds := [], alts := [], laidByText := true, laidKinds := [.data, .handle, .sentinel, .sentinel, .sentinel, .sentinel, .sentinel, .sentinel, .sentinel, .sentinel, .pinned], laidTests := true, laidLooks := .later }
def WidthNoneUptoCardSaid : Prop := Claim7.holds Tryz.pinned (.plain (OpenSpec.upto widthNoneSpec)) widthNoneUptoCard

/-- THE SECOND FORM's CARD OF 'viramalaw15.WidthCounts'. -/
def widthCountsUptoCard : Claim7 := { stood := { row := widthCountsUptoRow, standIns := [], harness := (true, "fff8911dbad99978d22468c38c03ea7cf60215aaed4f667c212fe979b0fddc08"), looks := true }, kinds := [], alts := [], laidByText := true, laidKinds := [.data, .handle, .sentinel, .sentinel, .sentinel, .sentinel, .sentinel, .sentinel, .sentinel, .sentinel, .pinned], laidTests := true, laidLooks := .later }
def WidthCountsUptoCardSaid : Prop := Claim7.holds Tryz.pinned (.plain (OpenSpec.upto widthCountsSpec)) widthCountsUptoCard

/-- THE SECOND FORM's CARD OF 'viramalaw15.WidthSums'. -/
def widthSumsUptoCard : Claim7 := { stood := { row := widthSumsUptoRow, standIns := [], harness := (true, "fff8911dbad99978d22468c38c03ea7cf60215aaed4f667c212fe979b0fddc08"), looks := true }, kinds := [], alts := [], laidByText := true, laidKinds := [.data, .handle, .sentinel, .sentinel, .sentinel, .sentinel, .sentinel, .sentinel, .sentinel, .sentinel, .pinned], laidTests := true, laidLooks := .later }
def WidthSumsUptoCardSaid : Prop := Claim7.holds Tryz.pinned (.plain (OpenSpec.upto widthSumsSpec)) widthSumsUptoCard

/-- THE SECOND FORM's CARD OF 'viramalaw15.WidthFits'. -/
def widthFitsUptoCard : Claim7 := { stood := { row := widthFitsUptoRow, standIns := [], harness := (true, "fff8911dbad99978d22468c38c03ea7cf60215aaed4f667c212fe979b0fddc08"), looks := true }, kinds := [], alts := [], laidByText := true, laidKinds := [.data, .handle, .sentinel, .sentinel, .sentinel, .sentinel, .sentinel, .sentinel, .sentinel, .sentinel, .pinned], laidTests := true, laidLooks := .later }
def WidthFitsUptoCardSaid : Prop := Claim7.holds Tryz.pinned (.plain (OpenSpec.upto widthFitsSpec)) widthFitsUptoCard
end Rows
end Go.Proofs.YtjbeaheenfcgdaaGreatDoor
