/-
  NARROWER THAN 'FOR EVERY INPUT', by the rows' own cells (each row's printed sentence says how): PatternTexts: laid · PatternWhole: laid · PatternJoins: laid · PatternWider: laid · PatternItem: laid · PatternFits: laid · PatternBack: laid.
  DERIVED. THE GIVEN ROWS OF THIS SEAT. 7 by the template 'for every input the law returns true; each argument reads behind the call as it read before'; 0 by the template 'total and deterministic' (their statements: YtiedahfminhnbaaGreatDoorTotals.lean).
  GIVEN WITH THE SEED: the statements are not yours to turn. If you find one false, say at which input.
  Laid BY PROGRAM, IN A SANDBOX (cutbox-rows.mjs): the forced cells as the released guide's own fill.sh prints them over the translation 24ee665136ffcad5… (all of the seat's roots in one cut). By AI agents, Wed Nov 11 2026. No macro, syntax, notation, axiom, sorry.
-/
import Derived.Test.YtiedahfminhnbaaGreatDoorChecked
import GoSem.PinnedTables
import GoSem.Claim
import GoSem.ClaimJoined
import GoSem.ClaimMapViews
import Derived.JoinedTies
import Derived.KernelRfl
namespace Go.Proofs.YtiedahfminhnbaaGreatDoor
/- THE CELL 'sum', in the pinned program and in every row, IS THE sha256 OF THE DUMP (.gsa) THAT YtiedahfminhnbaaGreatDoorProg.lean LOADS. Nothing in Lean hashes anything: it is a label: what it is worth is what the hold of that sum in a sandbox is worth. -/
noncomputable def Tryz.pinned : Pinned := { name := "ytiedahfminhnbaagreatdoor", sum := "24ee665136ffcad570faec5e61c1ea9b85b22f0a04748eef7102b2395146f3d8", checked := Tryz.checked }
namespace Rows
def none {H : Type} : Left H := { results := [], args := [] }

/- WHAT THE LISTED PACKAGE-LEVEL VARIABLES READ AS WHEN THE CALL BEGINS. Each datum BY PROGRAM (the guide's laid-datum.mjs) off the statement by which the dump's own 'gosem.cut.vars' lays the variable. In a bare row this is a premise. The card (YtiedahfminhnbaaGreatDoorCards.lean) ties it to the program's text. -/
def laid_unicode_utf8_acceptRanges {H : Type} : DataW H := .agg [.agg [.lit (.int .u8 128), .lit (.int .u8 191)], .agg [.lit (.int .u8 160), .lit (.int .u8 191)], .agg [.lit (.int .u8 128), .lit (.int .u8 159)], .agg [.lit (.int .u8 144), .lit (.int .u8 191)], .agg [.lit (.int .u8 128), .lit (.int .u8 143)], .agg [.lit (.int .u8 0), .lit (.int .u8 0)], .agg [.lit (.int .u8 0), .lit (.int .u8 0)], .agg [.lit (.int .u8 0), .lit (.int .u8 0)], .agg [.lit (.int .u8 0), .lit (.int .u8 0)], .agg [.lit (.int .u8 0), .lit (.int .u8 0)], .agg [.lit (.int .u8 0), .lit (.int .u8 0)], .agg [.lit (.int .u8 0), .lit (.int .u8 0)], .agg [.lit (.int .u8 0), .lit (.int .u8 0)], .agg [.lit (.int .u8 0), .lit (.int .u8 0)], .agg [.lit (.int .u8 0), .lit (.int .u8 0)], .agg [.lit (.int .u8 0), .lit (.int .u8 0)]]
def laid_errors_errorType {H : Type} : DataW H := .iface "internal/reflectlite.rtype" (.agg [.ptr (.lit (.string [101, 114, 114, 111, 114]))])
def laid_virama_class_errClass {H : Type} : DataW H := .iface "*errors.errorString" (.ptr (.agg [.lit (.string [110, 111, 32, 115, 101, 116])]))
def laid_virama_pattern_errPattern {H : Type} : DataW H := .iface "*errors.errorString" (.ptr (.agg [.lit (.string [110, 111, 32, 112, 97, 116, 116, 101, 114, 110])]))
/-- One of Go's own tables, pinned by name: the form's constant. -/
def laid_unicode_utf8_first : DataW Unit := Go.Pinned.utf8First

/-- 'viramalaw09.PatternTexts': WHATEVER THE INPUT: true; the input reads as it did. -/
def patternTextsSpec : ChangeSpec := { name := "patternTexts", fn := fun _ => fun
  | [d1, d2, d3] => { results := [.lit (.bool true)], args := [d1, d2, d3] }
  | _ => none }
def patternTextsRow : OpenClaim := { program := "ytiedahfminhnbaagreatdoor", sum := "24ee665136ffcad570faec5e61c1ea9b85b22f0a04748eef7102b2395146f3d8", func := "virama/viramalaw09.PatternTexts", spec := "patternTexts", inPlace := ["internal/abi.NoEscape", "internal/bytealg.CountString", "internal/bytealg.IndexByteString", "internal/bytealg.IndexString", "internal/reflectlite.ValueOf", "(internal/reflectlite.Value).Type", "(internal/reflectlite.Value).IsNil", "internal/reflectlite.TypeOf", "(internal/reflectlite.Value).Elem", "(internal/reflectlite.Value).Set", "internal/bytealg.MakeNoZero"], unfollowed := true, recurses := true, named := ["virama/pattern.errPattern", "unicode/utf8.first", "unicode/utf8.acceptRanges", "internal/bytealg.MaxLen", "virama/class.errClass", "errors.errorType"], apart := false, laid := [("unicode/utf8.acceptRanges", laid_unicode_utf8_acceptRanges), ("errors.errorType", laid_errors_errorType), ("virama/class.errClass", laid_virama_class_errClass), ("virama/pattern.errPattern", laid_virama_pattern_errPattern), ("unicode/utf8.first", laid_unicode_utf8_first)] }
def PatternTextsSaid : Prop := patternTextsRow.holds Tryz.pinned (OpenSpec.ofChange patternTextsSpec)

/-- ITS FALSE NEIGHBOUR: 'it returns false'. Refute it at one input. -/
def patternTextsWrong : ChangeSpec := { name := "patternTexts", fn := fun _ => fun
  | [d1, d2, d3] => { results := [.lit (.bool false)], args := [d1, d2, d3] }
  | _ => none }
def PatternTextsWrongFalsely : Prop := patternTextsRow.holds Tryz.pinned (OpenSpec.ofChange patternTextsWrong)

/-- 'viramalaw09.PatternWhole': WHATEVER THE INPUT: true; the input reads as it did. -/
def patternWholeSpec : ChangeSpec := { name := "patternWhole", fn := fun _ => fun
  | [d1, d2, d3] => { results := [.lit (.bool true)], args := [d1, d2, d3] }
  | _ => none }
def patternWholeRow : OpenClaim := { program := "ytiedahfminhnbaagreatdoor", sum := "24ee665136ffcad570faec5e61c1ea9b85b22f0a04748eef7102b2395146f3d8", func := "virama/viramalaw09.PatternWhole", spec := "patternWhole", inPlace := ["internal/abi.NoEscape", "internal/bytealg.CountString", "internal/bytealg.IndexByteString", "internal/bytealg.IndexString", "internal/reflectlite.ValueOf", "(internal/reflectlite.Value).Type", "(internal/reflectlite.Value).IsNil", "internal/reflectlite.TypeOf", "(internal/reflectlite.Value).Elem", "(internal/reflectlite.Value).Set", "internal/bytealg.MakeNoZero"], unfollowed := true, recurses := true, named := ["virama/pattern.errPattern", "unicode/utf8.first", "unicode/utf8.acceptRanges", "internal/bytealg.MaxLen", "virama/class.errClass", "errors.errorType"], apart := false, laid := [("unicode/utf8.acceptRanges", laid_unicode_utf8_acceptRanges), ("errors.errorType", laid_errors_errorType), ("virama/class.errClass", laid_virama_class_errClass), ("virama/pattern.errPattern", laid_virama_pattern_errPattern), ("unicode/utf8.first", laid_unicode_utf8_first)] }
def PatternWholeSaid : Prop := patternWholeRow.holds Tryz.pinned (OpenSpec.ofChange patternWholeSpec)

/-- ITS FALSE NEIGHBOUR: 'it returns false'. Refute it at one input. -/
def patternWholeWrong : ChangeSpec := { name := "patternWhole", fn := fun _ => fun
  | [d1, d2, d3] => { results := [.lit (.bool false)], args := [d1, d2, d3] }
  | _ => none }
def PatternWholeWrongFalsely : Prop := patternWholeRow.holds Tryz.pinned (OpenSpec.ofChange patternWholeWrong)

/-- 'viramalaw09.PatternJoins': WHATEVER THE INPUT: true; the input reads as it did. -/
def patternJoinsSpec : ChangeSpec := { name := "patternJoins", fn := fun _ => fun
  | [d1, d2, d3] => { results := [.lit (.bool true)], args := [d1, d2, d3] }
  | _ => none }
def patternJoinsRow : OpenClaim := { program := "ytiedahfminhnbaagreatdoor", sum := "24ee665136ffcad570faec5e61c1ea9b85b22f0a04748eef7102b2395146f3d8", func := "virama/viramalaw09.PatternJoins", spec := "patternJoins", inPlace := ["internal/abi.NoEscape", "internal/bytealg.CountString", "internal/bytealg.IndexByteString", "internal/bytealg.IndexString", "internal/reflectlite.ValueOf", "(internal/reflectlite.Value).Type", "(internal/reflectlite.Value).IsNil", "internal/reflectlite.TypeOf", "(internal/reflectlite.Value).Elem", "(internal/reflectlite.Value).Set", "internal/bytealg.MakeNoZero"], unfollowed := true, recurses := true, named := ["virama/pattern.errPattern", "unicode/utf8.first", "unicode/utf8.acceptRanges", "internal/bytealg.MaxLen", "virama/class.errClass", "errors.errorType"], apart := false, laid := [("unicode/utf8.acceptRanges", laid_unicode_utf8_acceptRanges), ("errors.errorType", laid_errors_errorType), ("virama/class.errClass", laid_virama_class_errClass), ("virama/pattern.errPattern", laid_virama_pattern_errPattern), ("unicode/utf8.first", laid_unicode_utf8_first)] }
def PatternJoinsSaid : Prop := patternJoinsRow.holds Tryz.pinned (OpenSpec.ofChange patternJoinsSpec)

/-- ITS FALSE NEIGHBOUR: 'it returns false'. Refute it at one input. -/
def patternJoinsWrong : ChangeSpec := { name := "patternJoins", fn := fun _ => fun
  | [d1, d2, d3] => { results := [.lit (.bool false)], args := [d1, d2, d3] }
  | _ => none }
def PatternJoinsWrongFalsely : Prop := patternJoinsRow.holds Tryz.pinned (OpenSpec.ofChange patternJoinsWrong)

/-- 'viramalaw09.PatternWider': WHATEVER THE INPUT: true; the input reads as it did. -/
def patternWiderSpec : ChangeSpec := { name := "patternWider", fn := fun _ => fun
  | [d1, d2, d3] => { results := [.lit (.bool true)], args := [d1, d2, d3] }
  | _ => none }
def patternWiderRow : OpenClaim := { program := "ytiedahfminhnbaagreatdoor", sum := "24ee665136ffcad570faec5e61c1ea9b85b22f0a04748eef7102b2395146f3d8", func := "virama/viramalaw09.PatternWider", spec := "patternWider", inPlace := ["internal/abi.NoEscape", "internal/bytealg.CountString", "internal/bytealg.IndexByteString", "internal/bytealg.IndexString", "internal/reflectlite.ValueOf", "(internal/reflectlite.Value).Type", "(internal/reflectlite.Value).IsNil", "internal/reflectlite.TypeOf", "(internal/reflectlite.Value).Elem", "(internal/reflectlite.Value).Set", "internal/bytealg.MakeNoZero"], unfollowed := true, recurses := true, named := ["virama/pattern.errPattern", "unicode/utf8.first", "unicode/utf8.acceptRanges", "internal/bytealg.MaxLen", "virama/class.errClass", "errors.errorType"], apart := false, laid := [("unicode/utf8.acceptRanges", laid_unicode_utf8_acceptRanges), ("errors.errorType", laid_errors_errorType), ("virama/class.errClass", laid_virama_class_errClass), ("virama/pattern.errPattern", laid_virama_pattern_errPattern), ("unicode/utf8.first", laid_unicode_utf8_first)] }
def PatternWiderSaid : Prop := patternWiderRow.holds Tryz.pinned (OpenSpec.ofChange patternWiderSpec)

/-- ITS FALSE NEIGHBOUR: 'it returns false'. Refute it at one input. -/
def patternWiderWrong : ChangeSpec := { name := "patternWider", fn := fun _ => fun
  | [d1, d2, d3] => { results := [.lit (.bool false)], args := [d1, d2, d3] }
  | _ => none }
def PatternWiderWrongFalsely : Prop := patternWiderRow.holds Tryz.pinned (OpenSpec.ofChange patternWiderWrong)

/-- 'viramalaw09.PatternItem': WHATEVER THE INPUT: true; the input reads as it did. -/
def patternItemSpec : ChangeSpec := { name := "patternItem", fn := fun _ => fun
  | [d1, d2, d3] => { results := [.lit (.bool true)], args := [d1, d2, d3] }
  | _ => none }
def patternItemRow : OpenClaim := { program := "ytiedahfminhnbaagreatdoor", sum := "24ee665136ffcad570faec5e61c1ea9b85b22f0a04748eef7102b2395146f3d8", func := "virama/viramalaw09.PatternItem", spec := "patternItem", inPlace := ["internal/abi.NoEscape", "internal/bytealg.CountString", "internal/bytealg.IndexByteString", "internal/bytealg.IndexString", "internal/reflectlite.ValueOf", "(internal/reflectlite.Value).Type", "(internal/reflectlite.Value).IsNil", "internal/reflectlite.TypeOf", "(internal/reflectlite.Value).Elem", "(internal/reflectlite.Value).Set", "internal/bytealg.MakeNoZero"], unfollowed := true, recurses := true, named := ["virama/pattern.errPattern", "unicode/utf8.first", "unicode/utf8.acceptRanges", "internal/bytealg.MaxLen", "virama/class.errClass", "errors.errorType"], apart := false, laid := [("unicode/utf8.acceptRanges", laid_unicode_utf8_acceptRanges), ("errors.errorType", laid_errors_errorType), ("virama/class.errClass", laid_virama_class_errClass), ("virama/pattern.errPattern", laid_virama_pattern_errPattern), ("unicode/utf8.first", laid_unicode_utf8_first)] }
def PatternItemSaid : Prop := patternItemRow.holds Tryz.pinned (OpenSpec.ofChange patternItemSpec)

/-- ITS FALSE NEIGHBOUR: 'it returns false'. Refute it at one input. -/
def patternItemWrong : ChangeSpec := { name := "patternItem", fn := fun _ => fun
  | [d1, d2, d3] => { results := [.lit (.bool false)], args := [d1, d2, d3] }
  | _ => none }
def PatternItemWrongFalsely : Prop := patternItemRow.holds Tryz.pinned (OpenSpec.ofChange patternItemWrong)

/-- 'viramalaw09.PatternFits': WHATEVER THE INPUT: true; the input reads as it did. -/
def patternFitsSpec : ChangeSpec := { name := "patternFits", fn := fun _ => fun
  | [d1, d2, d3, d4, d5] => { results := [.lit (.bool true)], args := [d1, d2, d3, d4, d5] }
  | _ => none }
def patternFitsRow : OpenClaim := { program := "ytiedahfminhnbaagreatdoor", sum := "24ee665136ffcad570faec5e61c1ea9b85b22f0a04748eef7102b2395146f3d8", func := "virama/viramalaw09.PatternFits", spec := "patternFits", inPlace := ["internal/abi.NoEscape", "internal/bytealg.CountString", "internal/bytealg.IndexByteString", "internal/bytealg.IndexString", "internal/reflectlite.ValueOf", "(internal/reflectlite.Value).Type", "(internal/reflectlite.Value).IsNil", "internal/reflectlite.TypeOf", "(internal/reflectlite.Value).Elem", "(internal/reflectlite.Value).Set", "internal/bytealg.MakeNoZero"], unfollowed := true, recurses := true, named := ["virama/pattern.errPattern", "unicode/utf8.first", "unicode/utf8.acceptRanges", "internal/bytealg.MaxLen", "virama/class.errClass", "errors.errorType"], apart := false, laid := [("unicode/utf8.acceptRanges", laid_unicode_utf8_acceptRanges), ("errors.errorType", laid_errors_errorType), ("virama/class.errClass", laid_virama_class_errClass), ("virama/pattern.errPattern", laid_virama_pattern_errPattern), ("unicode/utf8.first", laid_unicode_utf8_first)] }
def PatternFitsSaid : Prop := patternFitsRow.holds Tryz.pinned (OpenSpec.ofChange patternFitsSpec)

/-- ITS FALSE NEIGHBOUR: 'it returns false'. Refute it at one input. -/
def patternFitsWrong : ChangeSpec := { name := "patternFits", fn := fun _ => fun
  | [d1, d2, d3, d4, d5] => { results := [.lit (.bool false)], args := [d1, d2, d3, d4, d5] }
  | _ => none }
def PatternFitsWrongFalsely : Prop := patternFitsRow.holds Tryz.pinned (OpenSpec.ofChange patternFitsWrong)

/-- 'viramalaw09.PatternBack': WHATEVER THE INPUT: true; the input reads as it did. -/
def patternBackSpec : ChangeSpec := { name := "patternBack", fn := fun _ => fun
  | [d1, d2, d3] => { results := [.lit (.bool true)], args := [d1, d2, d3] }
  | _ => none }
def patternBackRow : OpenClaim := { program := "ytiedahfminhnbaagreatdoor", sum := "24ee665136ffcad570faec5e61c1ea9b85b22f0a04748eef7102b2395146f3d8", func := "virama/viramalaw09.PatternBack", spec := "patternBack", inPlace := ["internal/abi.NoEscape", "internal/bytealg.CountString", "internal/bytealg.IndexByteString", "internal/bytealg.IndexString", "internal/reflectlite.ValueOf", "(internal/reflectlite.Value).Type", "(internal/reflectlite.Value).IsNil", "internal/reflectlite.TypeOf", "(internal/reflectlite.Value).Elem", "(internal/reflectlite.Value).Set", "internal/bytealg.MakeNoZero"], unfollowed := true, recurses := true, named := ["virama/pattern.errPattern", "unicode/utf8.first", "unicode/utf8.acceptRanges", "internal/bytealg.MaxLen", "virama/class.errClass", "errors.errorType"], apart := false, laid := [("unicode/utf8.acceptRanges", laid_unicode_utf8_acceptRanges), ("errors.errorType", laid_errors_errorType), ("virama/class.errClass", laid_virama_class_errClass), ("virama/pattern.errPattern", laid_virama_pattern_errPattern), ("unicode/utf8.first", laid_unicode_utf8_first)] }
def PatternBackSaid : Prop := patternBackRow.holds Tryz.pinned (OpenSpec.ofChange patternBackSpec)

/-- ITS FALSE NEIGHBOUR: 'it returns false'. Refute it at one input. -/
def patternBackWrong : ChangeSpec := { name := "patternBack", fn := fun _ => fun
  | [d1, d2, d3] => { results := [.lit (.bool false)], args := [d1, d2, d3] }
  | _ => none }
def PatternBackWrongFalsely : Prop := patternBackRow.holds Tryz.pinned (OpenSpec.ofChange patternBackWrong)

/- THE SECOND FORM. 'bulk': how many values and letters a reading holds, each counted each time it is reached (what is shared counts as often as it is met; a slice's spare places count too). A statement '..UptoSaid' is the law's where the arguments, and the package variables that the reading takes, are together of bulk at most 1048576: NARROWER than '..Said'. Prove '..Said' where nothing that the law and all that it calls make is longer than what came in: it says more and counts as full. Else prove '..UptoSaid'. A law counts once. -/
mutual
def uptoBulk {H : Type} : DataW H → Nat
  | .lit (.string bytes) => bytes.length + 1
  | .lit _ => 1
  | .nil => 1
  | .ptr d => uptoBulk d + 1
  | .slice elems spare => uptoBulkAll elems + uptoBulkAll spare + 1
  | .agg parts => uptoBulkAll parts + 1
  | .iface _ d => uptoBulk d + 1
  | .map entries => uptoBulkEntries entries + 1
  | .held _ => 1
def uptoBulkAll {H : Type} : List (DataW H) → Nat
  | [] => 0
  | d :: r => uptoBulk d + uptoBulkAll r
def uptoBulkEntries {H : Type} : List (Lit × DataW H) → Nat
  | [] => 0
  | x :: r => uptoBulkEntry x + uptoBulkEntries r
def uptoBulkEntry {H : Type} : Lit × DataW H → Nat
  | (.string bytes, d) => bytes.length + uptoBulk d + 1
  | (_, d) => uptoBulk d + 1
 end
def uptoSmall : (H : Type) → List (DataW H) → Bool := fun _ ds => decide (uptoBulkAll ds ≤ 1048576)
def OpenSpec.upto (s : _root_.Go.ChangeSpec) : _root_.Go.OpenSpec := { _root_.Go.OpenSpec.ofChange s with cond := some uptoSmall }

/-- 'viramalaw09.PatternTexts', WHERE WHAT IT READS IS OF BULK AT MOST 1048576: true; the input reads as it did. -/
def patternTextsUptoRow : OpenClaim := { program := "ytiedahfminhnbaagreatdoor", sum := "24ee665136ffcad570faec5e61c1ea9b85b22f0a04748eef7102b2395146f3d8", func := "virama/viramalaw09.PatternTexts", spec := "patternTexts", inPlace := ["internal/abi.NoEscape", "internal/bytealg.CountString", "internal/bytealg.IndexByteString", "internal/bytealg.IndexString", "internal/reflectlite.ValueOf", "(internal/reflectlite.Value).Type", "(internal/reflectlite.Value).IsNil", "internal/reflectlite.TypeOf", "(internal/reflectlite.Value).Elem", "(internal/reflectlite.Value).Set", "internal/bytealg.MakeNoZero"], unfollowed := true, recurses := true, named := ["virama/pattern.errPattern", "unicode/utf8.first", "unicode/utf8.acceptRanges", "internal/bytealg.MaxLen", "virama/class.errClass", "errors.errorType"], apart := false, laid := [("unicode/utf8.acceptRanges", laid_unicode_utf8_acceptRanges), ("errors.errorType", laid_errors_errorType), ("virama/class.errClass", laid_virama_class_errClass), ("virama/pattern.errPattern", laid_virama_pattern_errPattern), ("unicode/utf8.first", laid_unicode_utf8_first)], narrowed := true }
def PatternTextsUptoSaid : Prop := patternTextsUptoRow.holds Tryz.pinned (OpenSpec.upto patternTextsSpec)

/-- 'viramalaw09.PatternWhole', WHERE WHAT IT READS IS OF BULK AT MOST 1048576: true; the input reads as it did. -/
def patternWholeUptoRow : OpenClaim := { program := "ytiedahfminhnbaagreatdoor", sum := "24ee665136ffcad570faec5e61c1ea9b85b22f0a04748eef7102b2395146f3d8", func := "virama/viramalaw09.PatternWhole", spec := "patternWhole", inPlace := ["internal/abi.NoEscape", "internal/bytealg.CountString", "internal/bytealg.IndexByteString", "internal/bytealg.IndexString", "internal/reflectlite.ValueOf", "(internal/reflectlite.Value).Type", "(internal/reflectlite.Value).IsNil", "internal/reflectlite.TypeOf", "(internal/reflectlite.Value).Elem", "(internal/reflectlite.Value).Set", "internal/bytealg.MakeNoZero"], unfollowed := true, recurses := true, named := ["virama/pattern.errPattern", "unicode/utf8.first", "unicode/utf8.acceptRanges", "internal/bytealg.MaxLen", "virama/class.errClass", "errors.errorType"], apart := false, laid := [("unicode/utf8.acceptRanges", laid_unicode_utf8_acceptRanges), ("errors.errorType", laid_errors_errorType), ("virama/class.errClass", laid_virama_class_errClass), ("virama/pattern.errPattern", laid_virama_pattern_errPattern), ("unicode/utf8.first", laid_unicode_utf8_first)], narrowed := true }
def PatternWholeUptoSaid : Prop := patternWholeUptoRow.holds Tryz.pinned (OpenSpec.upto patternWholeSpec)

/-- 'viramalaw09.PatternJoins', WHERE WHAT IT READS IS OF BULK AT MOST 1048576: true; the input reads as it did. -/
def patternJoinsUptoRow : OpenClaim := { program := "ytiedahfminhnbaagreatdoor", sum := "24ee665136ffcad570faec5e61c1ea9b85b22f0a04748eef7102b2395146f3d8", func := "virama/viramalaw09.PatternJoins", spec := "patternJoins", inPlace := ["internal/abi.NoEscape", "internal/bytealg.CountString", "internal/bytealg.IndexByteString", "internal/bytealg.IndexString", "internal/reflectlite.ValueOf", "(internal/reflectlite.Value).Type", "(internal/reflectlite.Value).IsNil", "internal/reflectlite.TypeOf", "(internal/reflectlite.Value).Elem", "(internal/reflectlite.Value).Set", "internal/bytealg.MakeNoZero"], unfollowed := true, recurses := true, named := ["virama/pattern.errPattern", "unicode/utf8.first", "unicode/utf8.acceptRanges", "internal/bytealg.MaxLen", "virama/class.errClass", "errors.errorType"], apart := false, laid := [("unicode/utf8.acceptRanges", laid_unicode_utf8_acceptRanges), ("errors.errorType", laid_errors_errorType), ("virama/class.errClass", laid_virama_class_errClass), ("virama/pattern.errPattern", laid_virama_pattern_errPattern), ("unicode/utf8.first", laid_unicode_utf8_first)], narrowed := true }
def PatternJoinsUptoSaid : Prop := patternJoinsUptoRow.holds Tryz.pinned (OpenSpec.upto patternJoinsSpec)

/-- 'viramalaw09.PatternWider', WHERE WHAT IT READS IS OF BULK AT MOST 1048576: true; the input reads as it did. -/
def patternWiderUptoRow : OpenClaim := { program := "ytiedahfminhnbaagreatdoor", sum := "24ee665136ffcad570faec5e61c1ea9b85b22f0a04748eef7102b2395146f3d8", func := "virama/viramalaw09.PatternWider", spec := "patternWider", inPlace := ["internal/abi.NoEscape", "internal/bytealg.CountString", "internal/bytealg.IndexByteString", "internal/bytealg.IndexString", "internal/reflectlite.ValueOf", "(internal/reflectlite.Value).Type", "(internal/reflectlite.Value).IsNil", "internal/reflectlite.TypeOf", "(internal/reflectlite.Value).Elem", "(internal/reflectlite.Value).Set", "internal/bytealg.MakeNoZero"], unfollowed := true, recurses := true, named := ["virama/pattern.errPattern", "unicode/utf8.first", "unicode/utf8.acceptRanges", "internal/bytealg.MaxLen", "virama/class.errClass", "errors.errorType"], apart := false, laid := [("unicode/utf8.acceptRanges", laid_unicode_utf8_acceptRanges), ("errors.errorType", laid_errors_errorType), ("virama/class.errClass", laid_virama_class_errClass), ("virama/pattern.errPattern", laid_virama_pattern_errPattern), ("unicode/utf8.first", laid_unicode_utf8_first)], narrowed := true }
def PatternWiderUptoSaid : Prop := patternWiderUptoRow.holds Tryz.pinned (OpenSpec.upto patternWiderSpec)

/-- 'viramalaw09.PatternItem', WHERE WHAT IT READS IS OF BULK AT MOST 1048576: true; the input reads as it did. -/
def patternItemUptoRow : OpenClaim := { program := "ytiedahfminhnbaagreatdoor", sum := "24ee665136ffcad570faec5e61c1ea9b85b22f0a04748eef7102b2395146f3d8", func := "virama/viramalaw09.PatternItem", spec := "patternItem", inPlace := ["internal/abi.NoEscape", "internal/bytealg.CountString", "internal/bytealg.IndexByteString", "internal/bytealg.IndexString", "internal/reflectlite.ValueOf", "(internal/reflectlite.Value).Type", "(internal/reflectlite.Value).IsNil", "internal/reflectlite.TypeOf", "(internal/reflectlite.Value).Elem", "(internal/reflectlite.Value).Set", "internal/bytealg.MakeNoZero"], unfollowed := true, recurses := true, named := ["virama/pattern.errPattern", "unicode/utf8.first", "unicode/utf8.acceptRanges", "internal/bytealg.MaxLen", "virama/class.errClass", "errors.errorType"], apart := false, laid := [("unicode/utf8.acceptRanges", laid_unicode_utf8_acceptRanges), ("errors.errorType", laid_errors_errorType), ("virama/class.errClass", laid_virama_class_errClass), ("virama/pattern.errPattern", laid_virama_pattern_errPattern), ("unicode/utf8.first", laid_unicode_utf8_first)], narrowed := true }
def PatternItemUptoSaid : Prop := patternItemUptoRow.holds Tryz.pinned (OpenSpec.upto patternItemSpec)

/-- 'viramalaw09.PatternFits', WHERE WHAT IT READS IS OF BULK AT MOST 1048576: true; the input reads as it did. -/
def patternFitsUptoRow : OpenClaim := { program := "ytiedahfminhnbaagreatdoor", sum := "24ee665136ffcad570faec5e61c1ea9b85b22f0a04748eef7102b2395146f3d8", func := "virama/viramalaw09.PatternFits", spec := "patternFits", inPlace := ["internal/abi.NoEscape", "internal/bytealg.CountString", "internal/bytealg.IndexByteString", "internal/bytealg.IndexString", "internal/reflectlite.ValueOf", "(internal/reflectlite.Value).Type", "(internal/reflectlite.Value).IsNil", "internal/reflectlite.TypeOf", "(internal/reflectlite.Value).Elem", "(internal/reflectlite.Value).Set", "internal/bytealg.MakeNoZero"], unfollowed := true, recurses := true, named := ["virama/pattern.errPattern", "unicode/utf8.first", "unicode/utf8.acceptRanges", "internal/bytealg.MaxLen", "virama/class.errClass", "errors.errorType"], apart := false, laid := [("unicode/utf8.acceptRanges", laid_unicode_utf8_acceptRanges), ("errors.errorType", laid_errors_errorType), ("virama/class.errClass", laid_virama_class_errClass), ("virama/pattern.errPattern", laid_virama_pattern_errPattern), ("unicode/utf8.first", laid_unicode_utf8_first)], narrowed := true }
def PatternFitsUptoSaid : Prop := patternFitsUptoRow.holds Tryz.pinned (OpenSpec.upto patternFitsSpec)

/-- 'viramalaw09.PatternBack', WHERE WHAT IT READS IS OF BULK AT MOST 1048576: true; the input reads as it did. -/
def patternBackUptoRow : OpenClaim := { program := "ytiedahfminhnbaagreatdoor", sum := "24ee665136ffcad570faec5e61c1ea9b85b22f0a04748eef7102b2395146f3d8", func := "virama/viramalaw09.PatternBack", spec := "patternBack", inPlace := ["internal/abi.NoEscape", "internal/bytealg.CountString", "internal/bytealg.IndexByteString", "internal/bytealg.IndexString", "internal/reflectlite.ValueOf", "(internal/reflectlite.Value).Type", "(internal/reflectlite.Value).IsNil", "internal/reflectlite.TypeOf", "(internal/reflectlite.Value).Elem", "(internal/reflectlite.Value).Set", "internal/bytealg.MakeNoZero"], unfollowed := true, recurses := true, named := ["virama/pattern.errPattern", "unicode/utf8.first", "unicode/utf8.acceptRanges", "internal/bytealg.MaxLen", "virama/class.errClass", "errors.errorType"], apart := false, laid := [("unicode/utf8.acceptRanges", laid_unicode_utf8_acceptRanges), ("errors.errorType", laid_errors_errorType), ("virama/class.errClass", laid_virama_class_errClass), ("virama/pattern.errPattern", laid_virama_pattern_errPattern), ("unicode/utf8.first", laid_unicode_utf8_first)], narrowed := true }
def PatternBackUptoSaid : Prop := patternBackUptoRow.holds Tryz.pinned (OpenSpec.upto patternBackSpec)

end Rows
end Go.Proofs.YtiedahfminhnbaaGreatDoor
