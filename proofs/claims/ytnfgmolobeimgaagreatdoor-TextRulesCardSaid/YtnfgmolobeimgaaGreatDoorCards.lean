/-
  DERIVED. GIVEN WITH THE SEED: THE CARDS: each row of YtnfgmolobeimgaaGreatDoorRows.lean that lists a variable, with what it lists TIED to the program's text (the seventh form; the later family's looks); each row that meets fmt, with fmt's text TOLD by the authors' own Lean function (tested against real Go, not proved from fmt's source: count such statements apart). THE CARD IS WHAT COUNTS. Prove the row's statement (the work); the ties are given (YtnfgmolobeimgaaGreatDoorTie.lean); close each card by the builder's one call (the guide's Derived/Test/ToyasCard.lean, 'card_holds'). Laid BY PROGRAM, IN A SANDBOX (cutbox-door.mjs). By AI agents, Wed Nov 11 2026. No macro, syntax, notation, axiom, sorry.
-/
import Derived.Test.YtnfgmolobeimgaaGreatDoorRows
import GoSem.ClaimSeven
namespace Go.Proofs.YtnfgmolobeimgaaGreatDoor
namespace Rows

/-- THE TIED CARD OF 'viramalaw14.TextCounts'. -/
def textCountsCard : Claim7 := { stood := { row := textCountsRow, standIns := [], harness := (true, "7867ed30d7d42fd7eee9cc67d03b27a28a7b1f8a2cfab12de07ed08229fec111"), looks := true }, kinds := [], alts := [], laidByText := true, laidKinds := [.data, .handle, .sentinel, .sentinel, .sentinel, .sentinel, .sentinel, .sentinel, .sentinel, .sentinel, .sentinel, .sentinel, .sentinel, .pinned], laidTests := true, laidLooks := .later }
def TextCountsCardSaid : Prop := Claim7.holds Tryz.pinned (.plain (OpenSpec.ofChange textCountsSpec)) textCountsCard

/-- THE TIED CARD OF 'viramalaw14.TextIs'. -/
def textIsCard : Claim7 := { stood := { row := textIsRow, standIns := [], harness := (true, "7867ed30d7d42fd7eee9cc67d03b27a28a7b1f8a2cfab12de07ed08229fec111"), looks := true }, kinds := [], alts := [], laidByText := true, laidKinds := [.data, .handle, .sentinel, .sentinel, .sentinel, .sentinel, .sentinel, .sentinel, .sentinel, .sentinel, .sentinel, .sentinel, .sentinel, .pinned], laidTests := true, laidLooks := .later }
def TextIsCardSaid : Prop := Claim7.holds Tryz.pinned (.plain (OpenSpec.ofChange textIsSpec)) textIsCard

/-- THE TIED CARD OF 'viramalaw14.TextWhole'. -/
def textWholeCard : Claim7 := { stood := { row := textWholeRow, standIns := [], harness := (true, "7867ed30d7d42fd7eee9cc67d03b27a28a7b1f8a2cfab12de07ed08229fec111"), looks := true }, kinds := [], alts := [], laidByText := true, laidKinds := [.data, .handle, .sentinel, .sentinel, .sentinel, .sentinel, .sentinel, .sentinel, .sentinel, .sentinel, .sentinel, .sentinel, .sentinel, .pinned], laidTests := true, laidLooks := .later }
def TextWholeCardSaid : Prop := Claim7.holds Tryz.pinned (.plain (OpenSpec.ofChange textWholeSpec)) textWholeCard

/-- THE TIED CARD OF 'viramalaw14.TextRules'. -/
def textRulesCard : Claim7 := { stood := { row := textRulesRow, standIns := [], harness := (true, "7867ed30d7d42fd7eee9cc67d03b27a28a7b1f8a2cfab12de07ed08229fec111"), looks := true }, kinds := [], alts := [], laidByText := true, laidKinds := [.data, .handle, .sentinel, .sentinel, .sentinel, .sentinel, .sentinel, .sentinel, .sentinel, .sentinel, .sentinel, .sentinel, .sentinel, .pinned], laidTests := true, laidLooks := .later }
def TextRulesCardSaid : Prop := Claim7.holds Tryz.pinned (.plain (OpenSpec.ofChange textRulesSpec)) textRulesCard

/-- THE SECOND FORM's CARD OF 'viramalaw14.TextCounts'. -/
def textCountsUptoCard : Claim7 := { stood := { row := textCountsUptoRow, standIns := [], harness := (true, "7867ed30d7d42fd7eee9cc67d03b27a28a7b1f8a2cfab12de07ed08229fec111"), looks := true }, kinds := [], alts := [], laidByText := true, laidKinds := [.data, .handle, .sentinel, .sentinel, .sentinel, .sentinel, .sentinel, .sentinel, .sentinel, .sentinel, .sentinel, .sentinel, .sentinel, .pinned], laidTests := true, laidLooks := .later }
def TextCountsUptoCardSaid : Prop := Claim7.holds Tryz.pinned (.plain (OpenSpec.upto textCountsSpec)) textCountsUptoCard

/-- THE SECOND FORM's CARD OF 'viramalaw14.TextIs'. -/
def textIsUptoCard : Claim7 := { stood := { row := textIsUptoRow, standIns := [], harness := (true, "7867ed30d7d42fd7eee9cc67d03b27a28a7b1f8a2cfab12de07ed08229fec111"), looks := true }, kinds := [], alts := [], laidByText := true, laidKinds := [.data, .handle, .sentinel, .sentinel, .sentinel, .sentinel, .sentinel, .sentinel, .sentinel, .sentinel, .sentinel, .sentinel, .sentinel, .pinned], laidTests := true, laidLooks := .later }
def TextIsUptoCardSaid : Prop := Claim7.holds Tryz.pinned (.plain (OpenSpec.upto textIsSpec)) textIsUptoCard

/-- THE SECOND FORM's CARD OF 'viramalaw14.TextWhole'. -/
def textWholeUptoCard : Claim7 := { stood := { row := textWholeUptoRow, standIns := [], harness := (true, "7867ed30d7d42fd7eee9cc67d03b27a28a7b1f8a2cfab12de07ed08229fec111"), looks := true }, kinds := [], alts := [], laidByText := true, laidKinds := [.data, .handle, .sentinel, .sentinel, .sentinel, .sentinel, .sentinel, .sentinel, .sentinel, .sentinel, .sentinel, .sentinel, .sentinel, .pinned], laidTests := true, laidLooks := .later }
def TextWholeUptoCardSaid : Prop := Claim7.holds Tryz.pinned (.plain (OpenSpec.upto textWholeSpec)) textWholeUptoCard

/-- THE SECOND FORM's CARD OF 'viramalaw14.TextRules'. -/
def textRulesUptoCard : Claim7 := { stood := { row := textRulesUptoRow, standIns := [], harness := (true, "7867ed30d7d42fd7eee9cc67d03b27a28a7b1f8a2cfab12de07ed08229fec111"), looks := true }, kinds := [], alts := [], laidByText := true, laidKinds := [.data, .handle, .sentinel, .sentinel, .sentinel, .sentinel, .sentinel, .sentinel, .sentinel, .sentinel, .sentinel, .sentinel, .sentinel, .pinned], laidTests := true, laidLooks := .later }
def TextRulesUptoCardSaid : Prop := Claim7.holds Tryz.pinned (.plain (OpenSpec.upto textRulesSpec)) textRulesUptoCard
end Rows
end Go.Proofs.YtnfgmolobeimgaaGreatDoor
