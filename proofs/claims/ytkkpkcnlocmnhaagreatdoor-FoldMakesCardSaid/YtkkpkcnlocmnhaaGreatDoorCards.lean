/-
  DERIVED. GIVEN WITH THE SEED: THE CARDS: each row of YtkkpkcnlocmnhaaGreatDoorRows.lean that lists a variable, with what it lists TIED to the program's text (the seventh form; the later family's looks); each row that meets fmt, with fmt's text TOLD by the authors' own Lean function (tested against real Go, not proved from fmt's source: count such statements apart). THE CARD IS WHAT COUNTS. Prove the row's statement (the work); the ties are given (YtkkpkcnlocmnhaaGreatDoorTie.lean); close each card by the builder's one call (the guide's Derived/Test/ToyasCard.lean, 'card_holds'). Laid BY PROGRAM, IN A SANDBOX (cutbox-door.mjs). By AI agents, Wed Nov 11 2026. No macro, syntax, notation, axiom, sorry.
-/
import Derived.Test.YtkkpkcnlocmnhaaGreatDoorRows
import GoSem.ClaimSeven
namespace Go.Proofs.YtkkpkcnlocmnhaaGreatDoor
namespace Rows

/-- THE TIED CARD OF 'viramalaw16.FoldMakes'. -/
def foldMakesCard : Claim7 := { stood := { row := foldMakesRow, standIns := [], harness := (true, "08942af07d3c0529139690b31d68eabedf75f34472facae7435627b8cc8bdd57"), looks := true }, kinds := [], alts := [], laidByText := true, laidKinds := [.data, .handle, .sentinel, .sentinel, .sentinel, .pinned], laidTests := true, laidLooks := .later }
def FoldMakesCardSaid : Prop := Claim7.holds Tryz.pinned (.plain (OpenSpec.ofChange foldMakesSpec)) foldMakesCard

/-- THE TIED CARD OF 'viramalaw16.FoldTells'. -/
def foldTellsCard : Claim7 := { stood := { row := foldTellsRow, standIns := [], harness := (true, "08942af07d3c0529139690b31d68eabedf75f34472facae7435627b8cc8bdd57"), looks := true }, kinds := [], alts := [], laidByText := true, laidKinds := [.data, .handle, .sentinel, .sentinel, .sentinel, .pinned], laidTests := true, laidLooks := .later }
def FoldTellsCardSaid : Prop := Claim7.holds Tryz.pinned (.plain (OpenSpec.ofChange foldTellsSpec)) foldTellsCard

/-- THE SECOND FORM's CARD OF 'viramalaw16.FoldMakes'. -/
def foldMakesUptoCard : Claim7 := { stood := { row := foldMakesUptoRow, standIns := [], harness := (true, "08942af07d3c0529139690b31d68eabedf75f34472facae7435627b8cc8bdd57"), looks := true }, kinds := [], alts := [], laidByText := true, laidKinds := [.data, .handle, .sentinel, .sentinel, .sentinel, .pinned], laidTests := true, laidLooks := .later }
def FoldMakesUptoCardSaid : Prop := Claim7.holds Tryz.pinned (.plain (OpenSpec.upto foldMakesSpec)) foldMakesUptoCard

/-- THE SECOND FORM's CARD OF 'viramalaw16.FoldTells'. -/
def foldTellsUptoCard : Claim7 := { stood := { row := foldTellsUptoRow, standIns := [], harness := (true, "08942af07d3c0529139690b31d68eabedf75f34472facae7435627b8cc8bdd57"), looks := true }, kinds := [], alts := [], laidByText := true, laidKinds := [.data, .handle, .sentinel, .sentinel, .sentinel, .pinned], laidTests := true, laidLooks := .later }
def FoldTellsUptoCardSaid : Prop := Claim7.holds Tryz.pinned (.plain (OpenSpec.upto foldTellsSpec)) foldTellsUptoCard
end Rows
end Go.Proofs.YtkkpkcnlocmnhaaGreatDoor
