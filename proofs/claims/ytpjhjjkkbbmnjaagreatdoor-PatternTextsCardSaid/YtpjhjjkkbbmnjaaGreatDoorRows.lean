/-
  NARROWER THAN 'FOR EVERY INPUT', by the rows' own cells (each row's printed sentence says how): PatternTexts: laid · PatternFits: laid · PatternBack: laid · RuleCuts: laid · RuleFirst: laid · RuleSides: laid · RuleMore: laid · RuleTurned: laid · RuleTwice: laid · RuleTexts: laid · RuleBack: laid.
  DERIVED. THE GIVEN ROWS OF THIS SEAT. 11 by the template 'for every input the law returns true; each argument reads behind the call as it read before'; 0 by the template 'total and deterministic' (their statements: YtpjhjjkkbbmnjaaGreatDoorTotals.lean).
  GIVEN WITH THE SEED: the statements are not yours to turn. If you find one false, say at which input.
  Laid BY PROGRAM, IN A SANDBOX (cutbox-rows.mjs): the forced cells as the released guide's own fill.sh prints them over the translation 59fa8a817ead7871… (all of the seat's roots in one cut). By AI agents, Wed Nov 11 2026. No macro, syntax, notation, axiom, sorry.
-/
import Derived.Test.YtpjhjjkkbbmnjaaGreatDoorChecked
import GoSem.PinnedTables
import GoSem.Claim
import GoSem.ClaimJoined
import GoSem.ClaimMapViews
import Derived.JoinedTies
import Derived.KernelRfl
namespace Go.Proofs.YtpjhjjkkbbmnjaaGreatDoor
/- THE CELL 'sum', in the pinned program and in every row, IS THE sha256 OF THE DUMP (.gsa) THAT YtpjhjjkkbbmnjaaGreatDoorProg.lean LOADS. Nothing in Lean hashes anything: it is a label: what it is worth is what the hold of that sum in a sandbox is worth. -/
noncomputable def Tryz.pinned : Pinned := { name := "ytpjhjjkkbbmnjaagreatdoor", sum := "59fa8a817ead78719d076679cd524ffa65ff4f676a9db2967b893d21f8ecded2", checked := Tryz.checked }
namespace Rows
def none {H : Type} : Left H := { results := [], args := [] }

/- WHAT THE LISTED PACKAGE-LEVEL VARIABLES READ AS WHEN THE CALL BEGINS. Each datum BY PROGRAM (the guide's laid-datum.mjs) off the statement by which the dump's own 'gosem.cut.vars' lays the variable. In a bare row this is a premise. The card (YtpjhjjkkbbmnjaaGreatDoorCards.lean) ties it to the program's text. -/
def laid_unicode_utf8_acceptRanges {H : Type} : DataW H := .agg [.agg [.lit (.int .u8 128), .lit (.int .u8 191)], .agg [.lit (.int .u8 160), .lit (.int .u8 191)], .agg [.lit (.int .u8 128), .lit (.int .u8 159)], .agg [.lit (.int .u8 144), .lit (.int .u8 191)], .agg [.lit (.int .u8 128), .lit (.int .u8 143)], .agg [.lit (.int .u8 0), .lit (.int .u8 0)], .agg [.lit (.int .u8 0), .lit (.int .u8 0)], .agg [.lit (.int .u8 0), .lit (.int .u8 0)], .agg [.lit (.int .u8 0), .lit (.int .u8 0)], .agg [.lit (.int .u8 0), .lit (.int .u8 0)], .agg [.lit (.int .u8 0), .lit (.int .u8 0)], .agg [.lit (.int .u8 0), .lit (.int .u8 0)], .agg [.lit (.int .u8 0), .lit (.int .u8 0)], .agg [.lit (.int .u8 0), .lit (.int .u8 0)], .agg [.lit (.int .u8 0), .lit (.int .u8 0)], .agg [.lit (.int .u8 0), .lit (.int .u8 0)]]
def laid_errors_errorType {H : Type} : DataW H := .iface "internal/reflectlite.rtype" (.agg [.ptr (.lit (.string [101, 114, 114, 111, 114]))])
def laid_virama_class_errClass {H : Type} : DataW H := .iface "*errors.errorString" (.ptr (.agg [.lit (.string [110, 111, 32, 115, 101, 116])]))
def laid_virama_pattern_errPattern {H : Type} : DataW H := .iface "*errors.errorString" (.ptr (.agg [.lit (.string [110, 111, 32, 112, 97, 116, 116, 101, 114, 110])]))
/-- One of Go's own tables, pinned by name: the form's constant. -/
def laid_unicode_utf8_first : DataW Unit := Go.Pinned.utf8First

/-- 'viramalaw09.PatternTexts': WHATEVER THE INPUT: true; the input reads as it did. -/
def patternTextsSpec : ChangeSpec := { name := "patternTexts", fn := fun _ => fun
  | [d1, d2, d3] => { results := [.lit (.bool true)], args := [d1, d2, d3] }
  | _ => none }
def patternTextsRow : OpenClaim := { program := "ytpjhjjkkbbmnjaagreatdoor", sum := "59fa8a817ead78719d076679cd524ffa65ff4f676a9db2967b893d21f8ecded2", func := "virama/viramalaw09.PatternTexts", spec := "patternTexts", inPlace := ["internal/abi.NoEscape", "internal/bytealg.CountString", "internal/bytealg.IndexByteString", "internal/bytealg.IndexString", "internal/reflectlite.ValueOf", "(internal/reflectlite.Value).Type", "(internal/reflectlite.Value).IsNil", "internal/reflectlite.TypeOf", "(internal/reflectlite.Value).Elem", "(internal/reflectlite.Value).Set", "internal/bytealg.MakeNoZero"], unfollowed := true, recurses := true, named := ["virama/pattern.errPattern", "unicode/utf8.first", "unicode/utf8.acceptRanges", "internal/bytealg.MaxLen", "virama/class.errClass", "errors.errorType"], apart := false, laid := [("unicode/utf8.acceptRanges", laid_unicode_utf8_acceptRanges), ("errors.errorType", laid_errors_errorType), ("virama/class.errClass", laid_virama_class_errClass), ("virama/pattern.errPattern", laid_virama_pattern_errPattern), ("unicode/utf8.first", laid_unicode_utf8_first)] }
def PatternTextsSaid : Prop := patternTextsRow.holds Tryz.pinned (OpenSpec.ofChange patternTextsSpec)

/-- ITS FALSE NEIGHBOUR: 'it returns false'. Refute it at one input. -/
def patternTextsWrong : ChangeSpec := { name := "patternTexts", fn := fun _ => fun
  | [d1, d2, d3] => { results := [.lit (.bool false)], args := [d1, d2, d3] }
  | _ => none }
def PatternTextsWrongFalsely : Prop := patternTextsRow.holds Tryz.pinned (OpenSpec.ofChange patternTextsWrong)

/-- 'viramalaw09.PatternFits': WHATEVER THE INPUT: true; the input reads as it did. -/
def patternFitsSpec : ChangeSpec := { name := "patternFits", fn := fun _ => fun
  | [d1, d2, d3, d4, d5] => { results := [.lit (.bool true)], args := [d1, d2, d3, d4, d5] }
  | _ => none }
def patternFitsRow : OpenClaim := { program := "ytpjhjjkkbbmnjaagreatdoor", sum := "59fa8a817ead78719d076679cd524ffa65ff4f676a9db2967b893d21f8ecded2", func := "virama/viramalaw09.PatternFits", spec := "patternFits", inPlace := ["internal/abi.NoEscape", "internal/bytealg.CountString", "internal/bytealg.IndexByteString", "internal/bytealg.IndexString", "internal/reflectlite.ValueOf", "(internal/reflectlite.Value).Type", "(internal/reflectlite.Value).IsNil", "internal/reflectlite.TypeOf", "(internal/reflectlite.Value).Elem", "(internal/reflectlite.Value).Set", "internal/bytealg.MakeNoZero"], unfollowed := true, recurses := true, named := ["virama/pattern.errPattern", "unicode/utf8.first", "unicode/utf8.acceptRanges", "internal/bytealg.MaxLen", "virama/class.errClass", "errors.errorType"], apart := false, laid := [("unicode/utf8.acceptRanges", laid_unicode_utf8_acceptRanges), ("errors.errorType", laid_errors_errorType), ("virama/class.errClass", laid_virama_class_errClass), ("virama/pattern.errPattern", laid_virama_pattern_errPattern), ("unicode/utf8.first", laid_unicode_utf8_first)] }
def PatternFitsSaid : Prop := patternFitsRow.holds Tryz.pinned (OpenSpec.ofChange patternFitsSpec)

/-- ITS FALSE NEIGHBOUR: 'it returns false'. Refute it at one input. -/
def patternFitsWrong : ChangeSpec := { name := "patternFits", fn := fun _ => fun
  | [d1, d2, d3, d4, d5] => { results := [.lit (.bool false)], args := [d1, d2, d3, d4, d5] }
  | _ => none }
def PatternFitsWrongFalsely : Prop := patternFitsRow.holds Tryz.pinned (OpenSpec.ofChange patternFitsWrong)

/-- 'viramalaw09.PatternBack': WHATEVER THE INPUT: true; the input reads as it did. -/
def patternBackSpec : ChangeSpec := { name := "patternBack", fn := fun _ => fun
  | [d1, d2, d3] => { results := [.lit (.bool true)], args := [d1, d2, d3] }
  | _ => none }
def patternBackRow : OpenClaim := { program := "ytpjhjjkkbbmnjaagreatdoor", sum := "59fa8a817ead78719d076679cd524ffa65ff4f676a9db2967b893d21f8ecded2", func := "virama/viramalaw09.PatternBack", spec := "patternBack", inPlace := ["internal/abi.NoEscape", "internal/bytealg.CountString", "internal/bytealg.IndexByteString", "internal/bytealg.IndexString", "internal/reflectlite.ValueOf", "(internal/reflectlite.Value).Type", "(internal/reflectlite.Value).IsNil", "internal/reflectlite.TypeOf", "(internal/reflectlite.Value).Elem", "(internal/reflectlite.Value).Set", "internal/bytealg.MakeNoZero"], unfollowed := true, recurses := true, named := ["virama/pattern.errPattern", "unicode/utf8.first", "unicode/utf8.acceptRanges", "internal/bytealg.MaxLen", "virama/class.errClass", "errors.errorType"], apart := false, laid := [("unicode/utf8.acceptRanges", laid_unicode_utf8_acceptRanges), ("errors.errorType", laid_errors_errorType), ("virama/class.errClass", laid_virama_class_errClass), ("virama/pattern.errPattern", laid_virama_pattern_errPattern), ("unicode/utf8.first", laid_unicode_utf8_first)] }
def PatternBackSaid : Prop := patternBackRow.holds Tryz.pinned (OpenSpec.ofChange patternBackSpec)

/-- ITS FALSE NEIGHBOUR: 'it returns false'. Refute it at one input. -/
def patternBackWrong : ChangeSpec := { name := "patternBack", fn := fun _ => fun
  | [d1, d2, d3] => { results := [.lit (.bool false)], args := [d1, d2, d3] }
  | _ => none }
def PatternBackWrongFalsely : Prop := patternBackRow.holds Tryz.pinned (OpenSpec.ofChange patternBackWrong)

/-- 'viramalaw11.RuleCuts': WHATEVER THE INPUT: true; the input reads as it did. -/
def ruleCutsSpec : ChangeSpec := { name := "ruleCuts", fn := fun _ => fun
  | [d1, d2, d3, d4] => { results := [.lit (.bool true)], args := [d1, d2, d3, d4] }
  | _ => none }
def ruleCutsRow : OpenClaim := { program := "ytpjhjjkkbbmnjaagreatdoor", sum := "59fa8a817ead78719d076679cd524ffa65ff4f676a9db2967b893d21f8ecded2", func := "virama/viramalaw11.RuleCuts", spec := "ruleCuts", inPlace := ["internal/abi.NoEscape", "internal/bytealg.CountString", "internal/bytealg.IndexByteString", "internal/bytealg.IndexString", "internal/reflectlite.ValueOf", "(internal/reflectlite.Value).Type", "(internal/reflectlite.Value).IsNil", "internal/reflectlite.TypeOf", "(internal/reflectlite.Value).Elem", "(internal/reflectlite.Value).Set", "internal/bytealg.MakeNoZero"], unfollowed := true, recurses := true, named := ["virama/pattern.errPattern", "unicode/utf8.first", "unicode/utf8.acceptRanges", "internal/bytealg.MaxLen", "virama/class.errClass", "errors.errorType"], apart := false, laid := [("unicode/utf8.acceptRanges", laid_unicode_utf8_acceptRanges), ("errors.errorType", laid_errors_errorType), ("virama/class.errClass", laid_virama_class_errClass), ("virama/pattern.errPattern", laid_virama_pattern_errPattern), ("unicode/utf8.first", laid_unicode_utf8_first)] }
def RuleCutsSaid : Prop := ruleCutsRow.holds Tryz.pinned (OpenSpec.ofChange ruleCutsSpec)

/-- ITS FALSE NEIGHBOUR: 'it returns false'. Refute it at one input. -/
def ruleCutsWrong : ChangeSpec := { name := "ruleCuts", fn := fun _ => fun
  | [d1, d2, d3, d4] => { results := [.lit (.bool false)], args := [d1, d2, d3, d4] }
  | _ => none }
def RuleCutsWrongFalsely : Prop := ruleCutsRow.holds Tryz.pinned (OpenSpec.ofChange ruleCutsWrong)

/-- 'viramalaw11.RuleFirst': WHATEVER THE INPUT: true; the input reads as it did. -/
def ruleFirstSpec : ChangeSpec := { name := "ruleFirst", fn := fun _ => fun
  | [d1, d2, d3] => { results := [.lit (.bool true)], args := [d1, d2, d3] }
  | _ => none }
def ruleFirstRow : OpenClaim := { program := "ytpjhjjkkbbmnjaagreatdoor", sum := "59fa8a817ead78719d076679cd524ffa65ff4f676a9db2967b893d21f8ecded2", func := "virama/viramalaw11.RuleFirst", spec := "ruleFirst", inPlace := ["internal/abi.NoEscape", "internal/bytealg.CountString", "internal/bytealg.IndexByteString", "internal/bytealg.IndexString", "internal/reflectlite.ValueOf", "(internal/reflectlite.Value).Type", "(internal/reflectlite.Value).IsNil", "internal/reflectlite.TypeOf", "(internal/reflectlite.Value).Elem", "(internal/reflectlite.Value).Set", "internal/bytealg.MakeNoZero"], unfollowed := true, recurses := true, named := ["virama/pattern.errPattern", "unicode/utf8.first", "unicode/utf8.acceptRanges", "internal/bytealg.MaxLen", "virama/class.errClass", "errors.errorType"], apart := false, laid := [("unicode/utf8.acceptRanges", laid_unicode_utf8_acceptRanges), ("errors.errorType", laid_errors_errorType), ("virama/class.errClass", laid_virama_class_errClass), ("virama/pattern.errPattern", laid_virama_pattern_errPattern), ("unicode/utf8.first", laid_unicode_utf8_first)] }
def RuleFirstSaid : Prop := ruleFirstRow.holds Tryz.pinned (OpenSpec.ofChange ruleFirstSpec)

/-- ITS FALSE NEIGHBOUR: 'it returns false'. Refute it at one input. -/
def ruleFirstWrong : ChangeSpec := { name := "ruleFirst", fn := fun _ => fun
  | [d1, d2, d3] => { results := [.lit (.bool false)], args := [d1, d2, d3] }
  | _ => none }
def RuleFirstWrongFalsely : Prop := ruleFirstRow.holds Tryz.pinned (OpenSpec.ofChange ruleFirstWrong)

/-- 'viramalaw11.RuleSides': WHATEVER THE INPUT: true; the input reads as it did. -/
def ruleSidesSpec : ChangeSpec := { name := "ruleSides", fn := fun _ => fun
  | [d1, d2, d3, d4] => { results := [.lit (.bool true)], args := [d1, d2, d3, d4] }
  | _ => none }
def ruleSidesRow : OpenClaim := { program := "ytpjhjjkkbbmnjaagreatdoor", sum := "59fa8a817ead78719d076679cd524ffa65ff4f676a9db2967b893d21f8ecded2", func := "virama/viramalaw11.RuleSides", spec := "ruleSides", inPlace := ["internal/abi.NoEscape", "internal/bytealg.CountString", "internal/bytealg.IndexByteString", "internal/bytealg.IndexString", "internal/reflectlite.ValueOf", "(internal/reflectlite.Value).Type", "(internal/reflectlite.Value).IsNil", "internal/reflectlite.TypeOf", "(internal/reflectlite.Value).Elem", "(internal/reflectlite.Value).Set", "internal/bytealg.MakeNoZero"], unfollowed := true, recurses := true, named := ["virama/pattern.errPattern", "unicode/utf8.first", "unicode/utf8.acceptRanges", "internal/bytealg.MaxLen", "virama/class.errClass", "errors.errorType"], apart := false, laid := [("unicode/utf8.acceptRanges", laid_unicode_utf8_acceptRanges), ("errors.errorType", laid_errors_errorType), ("virama/class.errClass", laid_virama_class_errClass), ("virama/pattern.errPattern", laid_virama_pattern_errPattern), ("unicode/utf8.first", laid_unicode_utf8_first)] }
def RuleSidesSaid : Prop := ruleSidesRow.holds Tryz.pinned (OpenSpec.ofChange ruleSidesSpec)

/-- ITS FALSE NEIGHBOUR: 'it returns false'. Refute it at one input. -/
def ruleSidesWrong : ChangeSpec := { name := "ruleSides", fn := fun _ => fun
  | [d1, d2, d3, d4] => { results := [.lit (.bool false)], args := [d1, d2, d3, d4] }
  | _ => none }
def RuleSidesWrongFalsely : Prop := ruleSidesRow.holds Tryz.pinned (OpenSpec.ofChange ruleSidesWrong)

/-- 'viramalaw11.RuleMore': WHATEVER THE INPUT: true; the input reads as it did. -/
def ruleMoreSpec : ChangeSpec := { name := "ruleMore", fn := fun _ => fun
  | [d1, d2, d3, d4] => { results := [.lit (.bool true)], args := [d1, d2, d3, d4] }
  | _ => none }
def ruleMoreRow : OpenClaim := { program := "ytpjhjjkkbbmnjaagreatdoor", sum := "59fa8a817ead78719d076679cd524ffa65ff4f676a9db2967b893d21f8ecded2", func := "virama/viramalaw11.RuleMore", spec := "ruleMore", inPlace := ["internal/abi.NoEscape", "internal/bytealg.CountString", "internal/bytealg.IndexByteString", "internal/bytealg.IndexString", "internal/reflectlite.ValueOf", "(internal/reflectlite.Value).Type", "(internal/reflectlite.Value).IsNil", "internal/reflectlite.TypeOf", "(internal/reflectlite.Value).Elem", "(internal/reflectlite.Value).Set", "internal/bytealg.MakeNoZero"], unfollowed := true, recurses := true, named := ["virama/pattern.errPattern", "unicode/utf8.first", "unicode/utf8.acceptRanges", "internal/bytealg.MaxLen", "virama/class.errClass", "errors.errorType"], apart := false, laid := [("unicode/utf8.acceptRanges", laid_unicode_utf8_acceptRanges), ("errors.errorType", laid_errors_errorType), ("virama/class.errClass", laid_virama_class_errClass), ("virama/pattern.errPattern", laid_virama_pattern_errPattern), ("unicode/utf8.first", laid_unicode_utf8_first)] }
def RuleMoreSaid : Prop := ruleMoreRow.holds Tryz.pinned (OpenSpec.ofChange ruleMoreSpec)

/-- ITS FALSE NEIGHBOUR: 'it returns false'. Refute it at one input. -/
def ruleMoreWrong : ChangeSpec := { name := "ruleMore", fn := fun _ => fun
  | [d1, d2, d3, d4] => { results := [.lit (.bool false)], args := [d1, d2, d3, d4] }
  | _ => none }
def RuleMoreWrongFalsely : Prop := ruleMoreRow.holds Tryz.pinned (OpenSpec.ofChange ruleMoreWrong)

/-- 'viramalaw11.RuleTurned': WHATEVER THE INPUT: true; the input reads as it did. -/
def ruleTurnedSpec : ChangeSpec := { name := "ruleTurned", fn := fun _ => fun
  | [d1, d2, d3] => { results := [.lit (.bool true)], args := [d1, d2, d3] }
  | _ => none }
def ruleTurnedRow : OpenClaim := { program := "ytpjhjjkkbbmnjaagreatdoor", sum := "59fa8a817ead78719d076679cd524ffa65ff4f676a9db2967b893d21f8ecded2", func := "virama/viramalaw11.RuleTurned", spec := "ruleTurned", inPlace := ["internal/abi.NoEscape", "internal/bytealg.CountString", "internal/bytealg.IndexByteString", "internal/bytealg.IndexString", "internal/reflectlite.ValueOf", "(internal/reflectlite.Value).Type", "(internal/reflectlite.Value).IsNil", "internal/reflectlite.TypeOf", "(internal/reflectlite.Value).Elem", "(internal/reflectlite.Value).Set", "internal/bytealg.MakeNoZero"], unfollowed := true, recurses := true, named := ["virama/pattern.errPattern", "unicode/utf8.first", "unicode/utf8.acceptRanges", "internal/bytealg.MaxLen", "virama/class.errClass", "errors.errorType"], apart := false, laid := [("unicode/utf8.acceptRanges", laid_unicode_utf8_acceptRanges), ("errors.errorType", laid_errors_errorType), ("virama/class.errClass", laid_virama_class_errClass), ("virama/pattern.errPattern", laid_virama_pattern_errPattern), ("unicode/utf8.first", laid_unicode_utf8_first)] }
def RuleTurnedSaid : Prop := ruleTurnedRow.holds Tryz.pinned (OpenSpec.ofChange ruleTurnedSpec)

/-- ITS FALSE NEIGHBOUR: 'it returns false'. Refute it at one input. -/
def ruleTurnedWrong : ChangeSpec := { name := "ruleTurned", fn := fun _ => fun
  | [d1, d2, d3] => { results := [.lit (.bool false)], args := [d1, d2, d3] }
  | _ => none }
def RuleTurnedWrongFalsely : Prop := ruleTurnedRow.holds Tryz.pinned (OpenSpec.ofChange ruleTurnedWrong)

/-- 'viramalaw11.RuleTwice': WHATEVER THE INPUT: true; the input reads as it did. -/
def ruleTwiceSpec : ChangeSpec := { name := "ruleTwice", fn := fun _ => fun
  | [d1, d2] => { results := [.lit (.bool true)], args := [d1, d2] }
  | _ => none }
def ruleTwiceRow : OpenClaim := { program := "ytpjhjjkkbbmnjaagreatdoor", sum := "59fa8a817ead78719d076679cd524ffa65ff4f676a9db2967b893d21f8ecded2", func := "virama/viramalaw11.RuleTwice", spec := "ruleTwice", inPlace := ["internal/abi.NoEscape", "internal/bytealg.CountString", "internal/bytealg.IndexByteString", "internal/bytealg.IndexString", "internal/reflectlite.ValueOf", "(internal/reflectlite.Value).Type", "(internal/reflectlite.Value).IsNil", "internal/reflectlite.TypeOf", "(internal/reflectlite.Value).Elem", "(internal/reflectlite.Value).Set", "internal/bytealg.MakeNoZero"], unfollowed := true, recurses := true, named := ["virama/pattern.errPattern", "unicode/utf8.first", "unicode/utf8.acceptRanges", "internal/bytealg.MaxLen", "virama/class.errClass", "errors.errorType"], apart := false, laid := [("unicode/utf8.acceptRanges", laid_unicode_utf8_acceptRanges), ("errors.errorType", laid_errors_errorType), ("virama/class.errClass", laid_virama_class_errClass), ("virama/pattern.errPattern", laid_virama_pattern_errPattern), ("unicode/utf8.first", laid_unicode_utf8_first)] }
def RuleTwiceSaid : Prop := ruleTwiceRow.holds Tryz.pinned (OpenSpec.ofChange ruleTwiceSpec)

/-- ITS FALSE NEIGHBOUR: 'it returns false'. Refute it at one input. -/
def ruleTwiceWrong : ChangeSpec := { name := "ruleTwice", fn := fun _ => fun
  | [d1, d2] => { results := [.lit (.bool false)], args := [d1, d2] }
  | _ => none }
def RuleTwiceWrongFalsely : Prop := ruleTwiceRow.holds Tryz.pinned (OpenSpec.ofChange ruleTwiceWrong)

/-- 'viramalaw11.RuleTexts': WHATEVER THE INPUT: true; the input reads as it did. -/
def ruleTextsSpec : ChangeSpec := { name := "ruleTexts", fn := fun _ => fun
  | [d1, d2, d3, d4] => { results := [.lit (.bool true)], args := [d1, d2, d3, d4] }
  | _ => none }
def ruleTextsRow : OpenClaim := { program := "ytpjhjjkkbbmnjaagreatdoor", sum := "59fa8a817ead78719d076679cd524ffa65ff4f676a9db2967b893d21f8ecded2", func := "virama/viramalaw11.RuleTexts", spec := "ruleTexts", inPlace := ["internal/abi.NoEscape", "internal/bytealg.CountString", "internal/bytealg.IndexByteString", "internal/bytealg.IndexString", "internal/reflectlite.ValueOf", "(internal/reflectlite.Value).Type", "(internal/reflectlite.Value).IsNil", "internal/reflectlite.TypeOf", "(internal/reflectlite.Value).Elem", "(internal/reflectlite.Value).Set", "internal/bytealg.MakeNoZero"], unfollowed := true, recurses := true, named := ["virama/pattern.errPattern", "unicode/utf8.first", "unicode/utf8.acceptRanges", "internal/bytealg.MaxLen", "virama/class.errClass", "errors.errorType"], apart := false, laid := [("unicode/utf8.acceptRanges", laid_unicode_utf8_acceptRanges), ("errors.errorType", laid_errors_errorType), ("virama/class.errClass", laid_virama_class_errClass), ("virama/pattern.errPattern", laid_virama_pattern_errPattern), ("unicode/utf8.first", laid_unicode_utf8_first)] }
def RuleTextsSaid : Prop := ruleTextsRow.holds Tryz.pinned (OpenSpec.ofChange ruleTextsSpec)

/-- ITS FALSE NEIGHBOUR: 'it returns false'. Refute it at one input. -/
def ruleTextsWrong : ChangeSpec := { name := "ruleTexts", fn := fun _ => fun
  | [d1, d2, d3, d4] => { results := [.lit (.bool false)], args := [d1, d2, d3, d4] }
  | _ => none }
def RuleTextsWrongFalsely : Prop := ruleTextsRow.holds Tryz.pinned (OpenSpec.ofChange ruleTextsWrong)

/-- 'viramalaw11.RuleBack': WHATEVER THE INPUT: true; the input reads as it did. -/
def ruleBackSpec : ChangeSpec := { name := "ruleBack", fn := fun _ => fun
  | [d1, d2, d3] => { results := [.lit (.bool true)], args := [d1, d2, d3] }
  | _ => none }
def ruleBackRow : OpenClaim := { program := "ytpjhjjkkbbmnjaagreatdoor", sum := "59fa8a817ead78719d076679cd524ffa65ff4f676a9db2967b893d21f8ecded2", func := "virama/viramalaw11.RuleBack", spec := "ruleBack", inPlace := ["internal/abi.NoEscape", "internal/bytealg.CountString", "internal/bytealg.IndexByteString", "internal/bytealg.IndexString", "internal/reflectlite.ValueOf", "(internal/reflectlite.Value).Type", "(internal/reflectlite.Value).IsNil", "internal/reflectlite.TypeOf", "(internal/reflectlite.Value).Elem", "(internal/reflectlite.Value).Set", "internal/bytealg.MakeNoZero"], unfollowed := true, recurses := true, named := ["virama/pattern.errPattern", "unicode/utf8.first", "unicode/utf8.acceptRanges", "internal/bytealg.MaxLen", "virama/class.errClass", "errors.errorType"], apart := false, laid := [("unicode/utf8.acceptRanges", laid_unicode_utf8_acceptRanges), ("errors.errorType", laid_errors_errorType), ("virama/class.errClass", laid_virama_class_errClass), ("virama/pattern.errPattern", laid_virama_pattern_errPattern), ("unicode/utf8.first", laid_unicode_utf8_first)] }
def RuleBackSaid : Prop := ruleBackRow.holds Tryz.pinned (OpenSpec.ofChange ruleBackSpec)

/-- ITS FALSE NEIGHBOUR: 'it returns false'. Refute it at one input. -/
def ruleBackWrong : ChangeSpec := { name := "ruleBack", fn := fun _ => fun
  | [d1, d2, d3] => { results := [.lit (.bool false)], args := [d1, d2, d3] }
  | _ => none }
def RuleBackWrongFalsely : Prop := ruleBackRow.holds Tryz.pinned (OpenSpec.ofChange ruleBackWrong)

/- THE SECOND FORM. 'bulk': how many values and letters a reading holds, each counted each time it is reached (what is shared counts as often as it is met; a slice's spare places count too). A statement '..UptoSaid' is the law's where the arguments, and the package variables that the reading takes, are together of bulk at most 1048576: NARROWER than '..Said'. Prove '..Said' where nothing that the law and all that it calls make is longer than what came in: it says more and counts as full. Else prove '..UptoSaid'. A law counts once. -/
mutual
def uptoBulk {H : Type} : DataW H → Nat
  | .lit (.string bytes) => bytes.length + 1
  | .lit _ => 1
  | .nil => 1
  | .ptr d => uptoBulk d + 1
  | .slice elems spare => uptoBulkAll elems + uptoBulkAll spare + 1
  | .agg parts => uptoBulkAll parts + 1
  | .iface _ d => uptoBulk d + 1
  | .map entries => uptoBulkEntries entries + 1
  | .held _ => 1
def uptoBulkAll {H : Type} : List (DataW H) → Nat
  | [] => 0
  | d :: r => uptoBulk d + uptoBulkAll r
def uptoBulkEntries {H : Type} : List (Lit × DataW H) → Nat
  | [] => 0
  | x :: r => uptoBulkEntry x + uptoBulkEntries r
def uptoBulkEntry {H : Type} : Lit × DataW H → Nat
  | (.string bytes, d) => bytes.length + uptoBulk d + 1
  | (_, d) => uptoBulk d + 1
 end
def uptoSmall : (H : Type) → List (DataW H) → Bool := fun _ ds => decide (uptoBulkAll ds ≤ 1048576)
def OpenSpec.upto (s : _root_.Go.ChangeSpec) : _root_.Go.OpenSpec := { _root_.Go.OpenSpec.ofChange s with cond := some uptoSmall }

/-- 'viramalaw09.PatternTexts', WHERE WHAT IT READS IS OF BULK AT MOST 1048576: true; the input reads as it did. -/
def patternTextsUptoRow : OpenClaim := { program := "ytpjhjjkkbbmnjaagreatdoor", sum := "59fa8a817ead78719d076679cd524ffa65ff4f676a9db2967b893d21f8ecded2", func := "virama/viramalaw09.PatternTexts", spec := "patternTexts", inPlace := ["internal/abi.NoEscape", "internal/bytealg.CountString", "internal/bytealg.IndexByteString", "internal/bytealg.IndexString", "internal/reflectlite.ValueOf", "(internal/reflectlite.Value).Type", "(internal/reflectlite.Value).IsNil", "internal/reflectlite.TypeOf", "(internal/reflectlite.Value).Elem", "(internal/reflectlite.Value).Set", "internal/bytealg.MakeNoZero"], unfollowed := true, recurses := true, named := ["virama/pattern.errPattern", "unicode/utf8.first", "unicode/utf8.acceptRanges", "internal/bytealg.MaxLen", "virama/class.errClass", "errors.errorType"], apart := false, laid := [("unicode/utf8.acceptRanges", laid_unicode_utf8_acceptRanges), ("errors.errorType", laid_errors_errorType), ("virama/class.errClass", laid_virama_class_errClass), ("virama/pattern.errPattern", laid_virama_pattern_errPattern), ("unicode/utf8.first", laid_unicode_utf8_first)], narrowed := true }
def PatternTextsUptoSaid : Prop := patternTextsUptoRow.holds Tryz.pinned (OpenSpec.upto patternTextsSpec)

/-- 'viramalaw09.PatternFits', WHERE WHAT IT READS IS OF BULK AT MOST 1048576: true; the input reads as it did. -/
def patternFitsUptoRow : OpenClaim := { program := "ytpjhjjkkbbmnjaagreatdoor", sum := "59fa8a817ead78719d076679cd524ffa65ff4f676a9db2967b893d21f8ecded2", func := "virama/viramalaw09.PatternFits", spec := "patternFits", inPlace := ["internal/abi.NoEscape", "internal/bytealg.CountString", "internal/bytealg.IndexByteString", "internal/bytealg.IndexString", "internal/reflectlite.ValueOf", "(internal/reflectlite.Value).Type", "(internal/reflectlite.Value).IsNil", "internal/reflectlite.TypeOf", "(internal/reflectlite.Value).Elem", "(internal/reflectlite.Value).Set", "internal/bytealg.MakeNoZero"], unfollowed := true, recurses := true, named := ["virama/pattern.errPattern", "unicode/utf8.first", "unicode/utf8.acceptRanges", "internal/bytealg.MaxLen", "virama/class.errClass", "errors.errorType"], apart := false, laid := [("unicode/utf8.acceptRanges", laid_unicode_utf8_acceptRanges), ("errors.errorType", laid_errors_errorType), ("virama/class.errClass", laid_virama_class_errClass), ("virama/pattern.errPattern", laid_virama_pattern_errPattern), ("unicode/utf8.first", laid_unicode_utf8_first)], narrowed := true }
def PatternFitsUptoSaid : Prop := patternFitsUptoRow.holds Tryz.pinned (OpenSpec.upto patternFitsSpec)

/-- 'viramalaw09.PatternBack', WHERE WHAT IT READS IS OF BULK AT MOST 1048576: true; the input reads as it did. -/
def patternBackUptoRow : OpenClaim := { program := "ytpjhjjkkbbmnjaagreatdoor", sum := "59fa8a817ead78719d076679cd524ffa65ff4f676a9db2967b893d21f8ecded2", func := "virama/viramalaw09.PatternBack", spec := "patternBack", inPlace := ["internal/abi.NoEscape", "internal/bytealg.CountString", "internal/bytealg.IndexByteString", "internal/bytealg.IndexString", "internal/reflectlite.ValueOf", "(internal/reflectlite.Value).Type", "(internal/reflectlite.Value).IsNil", "internal/reflectlite.TypeOf", "(internal/reflectlite.Value).Elem", "(internal/reflectlite.Value).Set", "internal/bytealg.MakeNoZero"], unfollowed := true, recurses := true, named := ["virama/pattern.errPattern", "unicode/utf8.first", "unicode/utf8.acceptRanges", "internal/bytealg.MaxLen", "virama/class.errClass", "errors.errorType"], apart := false, laid := [("unicode/utf8.acceptRanges", laid_unicode_utf8_acceptRanges), ("errors.errorType", laid_errors_errorType), ("virama/class.errClass", laid_virama_class_errClass), ("virama/pattern.errPattern", laid_virama_pattern_errPattern), ("unicode/utf8.first", laid_unicode_utf8_first)], narrowed := true }
def PatternBackUptoSaid : Prop := patternBackUptoRow.holds Tryz.pinned (OpenSpec.upto patternBackSpec)

/-- 'viramalaw11.RuleCuts', WHERE WHAT IT READS IS OF BULK AT MOST 1048576: true; the input reads as it did. -/
def ruleCutsUptoRow : OpenClaim := { program := "ytpjhjjkkbbmnjaagreatdoor", sum := "59fa8a817ead78719d076679cd524ffa65ff4f676a9db2967b893d21f8ecded2", func := "virama/viramalaw11.RuleCuts", spec := "ruleCuts", inPlace := ["internal/abi.NoEscape", "internal/bytealg.CountString", "internal/bytealg.IndexByteString", "internal/bytealg.IndexString", "internal/reflectlite.ValueOf", "(internal/reflectlite.Value).Type", "(internal/reflectlite.Value).IsNil", "internal/reflectlite.TypeOf", "(internal/reflectlite.Value).Elem", "(internal/reflectlite.Value).Set", "internal/bytealg.MakeNoZero"], unfollowed := true, recurses := true, named := ["virama/pattern.errPattern", "unicode/utf8.first", "unicode/utf8.acceptRanges", "internal/bytealg.MaxLen", "virama/class.errClass", "errors.errorType"], apart := false, laid := [("unicode/utf8.acceptRanges", laid_unicode_utf8_acceptRanges), ("errors.errorType", laid_errors_errorType), ("virama/class.errClass", laid_virama_class_errClass), ("virama/pattern.errPattern", laid_virama_pattern_errPattern), ("unicode/utf8.first", laid_unicode_utf8_first)], narrowed := true }
def RuleCutsUptoSaid : Prop := ruleCutsUptoRow.holds Tryz.pinned (OpenSpec.upto ruleCutsSpec)

/-- 'viramalaw11.RuleFirst', WHERE WHAT IT READS IS OF BULK AT MOST 1048576: true; the input reads as it did. -/
def ruleFirstUptoRow : OpenClaim := { program := "ytpjhjjkkbbmnjaagreatdoor", sum := "59fa8a817ead78719d076679cd524ffa65ff4f676a9db2967b893d21f8ecded2", func := "virama/viramalaw11.RuleFirst", spec := "ruleFirst", inPlace := ["internal/abi.NoEscape", "internal/bytealg.CountString", "internal/bytealg.IndexByteString", "internal/bytealg.IndexString", "internal/reflectlite.ValueOf", "(internal/reflectlite.Value).Type", "(internal/reflectlite.Value).IsNil", "internal/reflectlite.TypeOf", "(internal/reflectlite.Value).Elem", "(internal/reflectlite.Value).Set", "internal/bytealg.MakeNoZero"], unfollowed := true, recurses := true, named := ["virama/pattern.errPattern", "unicode/utf8.first", "unicode/utf8.acceptRanges", "internal/bytealg.MaxLen", "virama/class.errClass", "errors.errorType"], apart := false, laid := [("unicode/utf8.acceptRanges", laid_unicode_utf8_acceptRanges), ("errors.errorType", laid_errors_errorType), ("virama/class.errClass", laid_virama_class_errClass), ("virama/pattern.errPattern", laid_virama_pattern_errPattern), ("unicode/utf8.first", laid_unicode_utf8_first)], narrowed := true }
def RuleFirstUptoSaid : Prop := ruleFirstUptoRow.holds Tryz.pinned (OpenSpec.upto ruleFirstSpec)

/-- 'viramalaw11.RuleSides', WHERE WHAT IT READS IS OF BULK AT MOST 1048576: true; the input reads as it did. -/
def ruleSidesUptoRow : OpenClaim := { program := "ytpjhjjkkbbmnjaagreatdoor", sum := "59fa8a817ead78719d076679cd524ffa65ff4f676a9db2967b893d21f8ecded2", func := "virama/viramalaw11.RuleSides", spec := "ruleSides", inPlace := ["internal/abi.NoEscape", "internal/bytealg.CountString", "internal/bytealg.IndexByteString", "internal/bytealg.IndexString", "internal/reflectlite.ValueOf", "(internal/reflectlite.Value).Type", "(internal/reflectlite.Value).IsNil", "internal/reflectlite.TypeOf", "(internal/reflectlite.Value).Elem", "(internal/reflectlite.Value).Set", "internal/bytealg.MakeNoZero"], unfollowed := true, recurses := true, named := ["virama/pattern.errPattern", "unicode/utf8.first", "unicode/utf8.acceptRanges", "internal/bytealg.MaxLen", "virama/class.errClass", "errors.errorType"], apart := false, laid := [("unicode/utf8.acceptRanges", laid_unicode_utf8_acceptRanges), ("errors.errorType", laid_errors_errorType), ("virama/class.errClass", laid_virama_class_errClass), ("virama/pattern.errPattern", laid_virama_pattern_errPattern), ("unicode/utf8.first", laid_unicode_utf8_first)], narrowed := true }
def RuleSidesUptoSaid : Prop := ruleSidesUptoRow.holds Tryz.pinned (OpenSpec.upto ruleSidesSpec)

/-- 'viramalaw11.RuleMore', WHERE WHAT IT READS IS OF BULK AT MOST 1048576: true; the input reads as it did. -/
def ruleMoreUptoRow : OpenClaim := { program := "ytpjhjjkkbbmnjaagreatdoor", sum := "59fa8a817ead78719d076679cd524ffa65ff4f676a9db2967b893d21f8ecded2", func := "virama/viramalaw11.RuleMore", spec := "ruleMore", inPlace := ["internal/abi.NoEscape", "internal/bytealg.CountString", "internal/bytealg.IndexByteString", "internal/bytealg.IndexString", "internal/reflectlite.ValueOf", "(internal/reflectlite.Value).Type", "(internal/reflectlite.Value).IsNil", "internal/reflectlite.TypeOf", "(internal/reflectlite.Value).Elem", "(internal/reflectlite.Value).Set", "internal/bytealg.MakeNoZero"], unfollowed := true, recurses := true, named := ["virama/pattern.errPattern", "unicode/utf8.first", "unicode/utf8.acceptRanges", "internal/bytealg.MaxLen", "virama/class.errClass", "errors.errorType"], apart := false, laid := [("unicode/utf8.acceptRanges", laid_unicode_utf8_acceptRanges), ("errors.errorType", laid_errors_errorType), ("virama/class.errClass", laid_virama_class_errClass), ("virama/pattern.errPattern", laid_virama_pattern_errPattern), ("unicode/utf8.first", laid_unicode_utf8_first)], narrowed := true }
def RuleMoreUptoSaid : Prop := ruleMoreUptoRow.holds Tryz.pinned (OpenSpec.upto ruleMoreSpec)

/-- 'viramalaw11.RuleTurned', WHERE WHAT IT READS IS OF BULK AT MOST 1048576: true; the input reads as it did. -/
def ruleTurnedUptoRow : OpenClaim := { program := "ytpjhjjkkbbmnjaagreatdoor", sum := "59fa8a817ead78719d076679cd524ffa65ff4f676a9db2967b893d21f8ecded2", func := "virama/viramalaw11.RuleTurned", spec := "ruleTurned", inPlace := ["internal/abi.NoEscape", "internal/bytealg.CountString", "internal/bytealg.IndexByteString", "internal/bytealg.IndexString", "internal/reflectlite.ValueOf", "(internal/reflectlite.Value).Type", "(internal/reflectlite.Value).IsNil", "internal/reflectlite.TypeOf", "(internal/reflectlite.Value).Elem", "(internal/reflectlite.Value).Set", "internal/bytealg.MakeNoZero"], unfollowed := true, recurses := true, named := ["virama/pattern.errPattern", "unicode/utf8.first", "unicode/utf8.acceptRanges", "internal/bytealg.MaxLen", "virama/class.errClass", "errors.errorType"], apart := false, laid := [("unicode/utf8.acceptRanges", laid_unicode_utf8_acceptRanges), ("errors.errorType", laid_errors_errorType), ("virama/class.errClass", laid_virama_class_errClass), ("virama/pattern.errPattern", laid_virama_pattern_errPattern), ("unicode/utf8.first", laid_unicode_utf8_first)], narrowed := true }
def RuleTurnedUptoSaid : Prop := ruleTurnedUptoRow.holds Tryz.pinned (OpenSpec.upto ruleTurnedSpec)

/-- 'viramalaw11.RuleTwice', WHERE WHAT IT READS IS OF BULK AT MOST 1048576: true; the input reads as it did. -/
def ruleTwiceUptoRow : OpenClaim := { program := "ytpjhjjkkbbmnjaagreatdoor", sum := "59fa8a817ead78719d076679cd524ffa65ff4f676a9db2967b893d21f8ecded2", func := "virama/viramalaw11.RuleTwice", spec := "ruleTwice", inPlace := ["internal/abi.NoEscape", "internal/bytealg.CountString", "internal/bytealg.IndexByteString", "internal/bytealg.IndexString", "internal/reflectlite.ValueOf", "(internal/reflectlite.Value).Type", "(internal/reflectlite.Value).IsNil", "internal/reflectlite.TypeOf", "(internal/reflectlite.Value).Elem", "(internal/reflectlite.Value).Set", "internal/bytealg.MakeNoZero"], unfollowed := true, recurses := true, named := ["virama/pattern.errPattern", "unicode/utf8.first", "unicode/utf8.acceptRanges", "internal/bytealg.MaxLen", "virama/class.errClass", "errors.errorType"], apart := false, laid := [("unicode/utf8.acceptRanges", laid_unicode_utf8_acceptRanges), ("errors.errorType", laid_errors_errorType), ("virama/class.errClass", laid_virama_class_errClass), ("virama/pattern.errPattern", laid_virama_pattern_errPattern), ("unicode/utf8.first", laid_unicode_utf8_first)], narrowed := true }
def RuleTwiceUptoSaid : Prop := ruleTwiceUptoRow.holds Tryz.pinned (OpenSpec.upto ruleTwiceSpec)

/-- 'viramalaw11.RuleTexts', WHERE WHAT IT READS IS OF BULK AT MOST 1048576: true; the input reads as it did. -/
def ruleTextsUptoRow : OpenClaim := { program := "ytpjhjjkkbbmnjaagreatdoor", sum := "59fa8a817ead78719d076679cd524ffa65ff4f676a9db2967b893d21f8ecded2", func := "virama/viramalaw11.RuleTexts", spec := "ruleTexts", inPlace := ["internal/abi.NoEscape", "internal/bytealg.CountString", "internal/bytealg.IndexByteString", "internal/bytealg.IndexString", "internal/reflectlite.ValueOf", "(internal/reflectlite.Value).Type", "(internal/reflectlite.Value).IsNil", "internal/reflectlite.TypeOf", "(internal/reflectlite.Value).Elem", "(internal/reflectlite.Value).Set", "internal/bytealg.MakeNoZero"], unfollowed := true, recurses := true, named := ["virama/pattern.errPattern", "unicode/utf8.first", "unicode/utf8.acceptRanges", "internal/bytealg.MaxLen", "virama/class.errClass", "errors.errorType"], apart := false, laid := [("unicode/utf8.acceptRanges", laid_unicode_utf8_acceptRanges), ("errors.errorType", laid_errors_errorType), ("virama/class.errClass", laid_virama_class_errClass), ("virama/pattern.errPattern", laid_virama_pattern_errPattern), ("unicode/utf8.first", laid_unicode_utf8_first)], narrowed := true }
def RuleTextsUptoSaid : Prop := ruleTextsUptoRow.holds Tryz.pinned (OpenSpec.upto ruleTextsSpec)

/-- 'viramalaw11.RuleBack', WHERE WHAT IT READS IS OF BULK AT MOST 1048576: true; the input reads as it did. -/
def ruleBackUptoRow : OpenClaim := { program := "ytpjhjjkkbbmnjaagreatdoor", sum := "59fa8a817ead78719d076679cd524ffa65ff4f676a9db2967b893d21f8ecded2", func := "virama/viramalaw11.RuleBack", spec := "ruleBack", inPlace := ["internal/abi.NoEscape", "internal/bytealg.CountString", "internal/bytealg.IndexByteString", "internal/bytealg.IndexString", "internal/reflectlite.ValueOf", "(internal/reflectlite.Value).Type", "(internal/reflectlite.Value).IsNil", "internal/reflectlite.TypeOf", "(internal/reflectlite.Value).Elem", "(internal/reflectlite.Value).Set", "internal/bytealg.MakeNoZero"], unfollowed := true, recurses := true, named := ["virama/pattern.errPattern", "unicode/utf8.first", "unicode/utf8.acceptRanges", "internal/bytealg.MaxLen", "virama/class.errClass", "errors.errorType"], apart := false, laid := [("unicode/utf8.acceptRanges", laid_unicode_utf8_acceptRanges), ("errors.errorType", laid_errors_errorType), ("virama/class.errClass", laid_virama_class_errClass), ("virama/pattern.errPattern", laid_virama_pattern_errPattern), ("unicode/utf8.first", laid_unicode_utf8_first)], narrowed := true }
def RuleBackUptoSaid : Prop := ruleBackUptoRow.holds Tryz.pinned (OpenSpec.upto ruleBackSpec)

end Rows
end Go.Proofs.YtpjhjjkkbbmnjaaGreatDoor
