/-
  DERIVED. GIVEN WITH THE SEED: THE CARDS: each row of YtfbgcoeialdhhaaGreatDoorRows.lean that lists a variable, with what it lists TIED to the program's text (the seventh form; the later family's looks); each row that meets fmt, with fmt's text TOLD by the authors' own Lean function (tested against real Go, not proved from fmt's source: count such statements apart). THE CARD IS WHAT COUNTS. Prove the row's statement (the work); the ties are given (YtfbgcoeialdhhaaGreatDoorTie.lean); close each card by the builder's one call (the guide's Derived/Test/ToyasCard.lean, 'card_holds'). Laid BY PROGRAM, IN A SANDBOX (cutbox-door.mjs). By AI agents, Wed Nov 11 2026. No macro, syntax, notation, axiom, sorry.
-/
import Derived.Test.YtfbgcoeialdhhaaGreatDoorRows
import GoSem.ClaimSeven
namespace Go.Proofs.YtfbgcoeialdhhaaGreatDoor
namespace Rows

/-- THE TIED CARD OF 'viramalaw16.FoldMakes'. -/
def foldMakesCard : Claim7 := { stood := { row := foldMakesRow, standIns := [], harness := (true, "8a3d459157c03a40dede506b41f2d01909352594c40e7c19881fac7cd10dec03"), looks := true }, kinds := [], alts := [], laidByText := true, laidKinds := [.data, .handle, .sentinel, .sentinel, .sentinel, .pinned], laidTests := true, laidLooks := .later }
def FoldMakesCardSaid : Prop := Claim7.holds Tryz.pinned (.plain (OpenSpec.ofChange foldMakesSpec)) foldMakesCard

/-- THE TIED CARD OF 'viramalaw16.FoldOver'. -/
def foldOverCard : Claim7 := { stood := { row := foldOverRow, standIns := [], harness := (true, "8a3d459157c03a40dede506b41f2d01909352594c40e7c19881fac7cd10dec03"), looks := true }, kinds := [], alts := [], laidByText := true, laidKinds := [.data, .handle, .sentinel, .sentinel, .sentinel, .pinned], laidTests := true, laidLooks := .later }
def FoldOverCardSaid : Prop := Claim7.holds Tryz.pinned (.plain (OpenSpec.ofChange foldOverSpec)) foldOverCard

/-- THE TIED CARD OF 'viramalaw16.FoldKeeps'. -/
def foldKeepsCard : Claim7 := { stood := { row := foldKeepsRow, standIns := [], harness := (true, "8a3d459157c03a40dede506b41f2d01909352594c40e7c19881fac7cd10dec03"), looks := true }, kinds := [], alts := [], laidByText := true, laidKinds := [.data, .handle, .sentinel, .sentinel, .sentinel, .pinned], laidTests := true, laidLooks := .later }
def FoldKeepsCardSaid : Prop := Claim7.holds Tryz.pinned (.plain (OpenSpec.ofChange foldKeepsSpec)) foldKeepsCard

/-- THE TIED CARD OF 'viramalaw16.FoldCore'. -/
def foldCoreCard : Claim7 := { stood := { row := foldCoreRow, standIns := [], harness := (true, "8a3d459157c03a40dede506b41f2d01909352594c40e7c19881fac7cd10dec03"), looks := true }, kinds := [], alts := [], laidByText := true, laidKinds := [.data, .handle, .sentinel, .sentinel, .sentinel, .pinned], laidTests := true, laidLooks := .later }
def FoldCoreCardSaid : Prop := Claim7.holds Tryz.pinned (.plain (OpenSpec.ofChange foldCoreSpec)) foldCoreCard

/-- THE TIED CARD OF 'viramalaw16.FoldTells'. -/
def foldTellsCard : Claim7 := { stood := { row := foldTellsRow, standIns := [], harness := (true, "8a3d459157c03a40dede506b41f2d01909352594c40e7c19881fac7cd10dec03"), looks := true }, kinds := [], alts := [], laidByText := true, laidKinds := [.data, .handle, .sentinel, .sentinel, .sentinel, .pinned], laidTests := true, laidLooks := .later }
def FoldTellsCardSaid : Prop := Claim7.holds Tryz.pinned (.plain (OpenSpec.ofChange foldTellsSpec)) foldTellsCard

/-- THE TIED CARD OF 'viramalaw16.FoldPassed'. -/
def foldPassedCard : Claim7 := { stood := { row := foldPassedRow, standIns := [], harness := (true, "8a3d459157c03a40dede506b41f2d01909352594c40e7c19881fac7cd10dec03"), looks := true }, kinds := [], alts := [], laidByText := true, laidKinds := [.data, .handle, .sentinel, .sentinel, .sentinel, .pinned], laidTests := true, laidLooks := .later }
def FoldPassedCardSaid : Prop := Claim7.holds Tryz.pinned (.plain (OpenSpec.ofChange foldPassedSpec)) foldPassedCard

/-- THE TIED CARD OF 'viramalaw16.FoldThree'. -/
def foldThreeCard : Claim7 := { stood := { row := foldThreeRow, standIns := [], harness := (true, "8a3d459157c03a40dede506b41f2d01909352594c40e7c19881fac7cd10dec03"), looks := true }, kinds := [], alts := [], laidByText := true, laidKinds := [.data, .handle, .sentinel, .sentinel, .sentinel, .sentinel, .sentinel, .pinned], laidTests := true, laidLooks := .later }
def FoldThreeCardSaid : Prop := Claim7.holds Tryz.pinned (.plain (OpenSpec.ofChange foldThreeSpec)) foldThreeCard

/-- THE SECOND FORM's CARD OF 'viramalaw16.FoldMakes'. -/
def foldMakesUptoCard : Claim7 := { stood := { row := foldMakesUptoRow, standIns := [], harness := (true, "8a3d459157c03a40dede506b41f2d01909352594c40e7c19881fac7cd10dec03"), looks := true }, kinds := [], alts := [], laidByText := true, laidKinds := [.data, .handle, .sentinel, .sentinel, .sentinel, .pinned], laidTests := true, laidLooks := .later }
def FoldMakesUptoCardSaid : Prop := Claim7.holds Tryz.pinned (.plain (OpenSpec.upto foldMakesSpec)) foldMakesUptoCard

/-- THE SECOND FORM's CARD OF 'viramalaw16.FoldOver'. -/
def foldOverUptoCard : Claim7 := { stood := { row := foldOverUptoRow, standIns := [], harness := (true, "8a3d459157c03a40dede506b41f2d01909352594c40e7c19881fac7cd10dec03"), looks := true }, kinds := [], alts := [], laidByText := true, laidKinds := [.data, .handle, .sentinel, .sentinel, .sentinel, .pinned], laidTests := true, laidLooks := .later }
def FoldOverUptoCardSaid : Prop := Claim7.holds Tryz.pinned (.plain (OpenSpec.upto foldOverSpec)) foldOverUptoCard

/-- THE SECOND FORM's CARD OF 'viramalaw16.FoldKeeps'. -/
def foldKeepsUptoCard : Claim7 := { stood := { row := foldKeepsUptoRow, standIns := [], harness := (true, "8a3d459157c03a40dede506b41f2d01909352594c40e7c19881fac7cd10dec03"), looks := true }, kinds := [], alts := [], laidByText := true, laidKinds := [.data, .handle, .sentinel, .sentinel, .sentinel, .pinned], laidTests := true, laidLooks := .later }
def FoldKeepsUptoCardSaid : Prop := Claim7.holds Tryz.pinned (.plain (OpenSpec.upto foldKeepsSpec)) foldKeepsUptoCard

/-- THE SECOND FORM's CARD OF 'viramalaw16.FoldCore'. -/
def foldCoreUptoCard : Claim7 := { stood := { row := foldCoreUptoRow, standIns := [], harness := (true, "8a3d459157c03a40dede506b41f2d01909352594c40e7c19881fac7cd10dec03"), looks := true }, kinds := [], alts := [], laidByText := true, laidKinds := [.data, .handle, .sentinel, .sentinel, .sentinel, .pinned], laidTests := true, laidLooks := .later }
def FoldCoreUptoCardSaid : Prop := Claim7.holds Tryz.pinned (.plain (OpenSpec.upto foldCoreSpec)) foldCoreUptoCard

/-- THE SECOND FORM's CARD OF 'viramalaw16.FoldTells'. -/
def foldTellsUptoCard : Claim7 := { stood := { row := foldTellsUptoRow, standIns := [], harness := (true, "8a3d459157c03a40dede506b41f2d01909352594c40e7c19881fac7cd10dec03"), looks := true }, kinds := [], alts := [], laidByText := true, laidKinds := [.data, .handle, .sentinel, .sentinel, .sentinel, .pinned], laidTests := true, laidLooks := .later }
def FoldTellsUptoCardSaid : Prop := Claim7.holds Tryz.pinned (.plain (OpenSpec.upto foldTellsSpec)) foldTellsUptoCard

/-- THE SECOND FORM's CARD OF 'viramalaw16.FoldPassed'. -/
def foldPassedUptoCard : Claim7 := { stood := { row := foldPassedUptoRow, standIns := [], harness := (true, "8a3d459157c03a40dede506b41f2d01909352594c40e7c19881fac7cd10dec03"), looks := true }, kinds := [], alts := [], laidByText := true, laidKinds := [.data, .handle, .sentinel, .sentinel, .sentinel, .pinned], laidTests := true, laidLooks := .later }
def FoldPassedUptoCardSaid : Prop := Claim7.holds Tryz.pinned (.plain (OpenSpec.upto foldPassedSpec)) foldPassedUptoCard

/-- THE SECOND FORM's CARD OF 'viramalaw16.FoldThree'. -/
def foldThreeUptoCard : Claim7 := { stood := { row := foldThreeUptoRow, standIns := [], harness := (true, "8a3d459157c03a40dede506b41f2d01909352594c40e7c19881fac7cd10dec03"), looks := true }, kinds := [], alts := [], laidByText := true, laidKinds := [.data, .handle, .sentinel, .sentinel, .sentinel, .sentinel, .sentinel, .pinned], laidTests := true, laidLooks := .later }
def FoldThreeUptoCardSaid : Prop := Claim7.holds Tryz.pinned (.plain (OpenSpec.upto foldThreeSpec)) foldThreeUptoCard
end Rows
end Go.Proofs.YtfbgcoeialdhhaaGreatDoor
