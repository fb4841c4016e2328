/-
  NARROWER THAN 'FOR EVERY INPUT', by the rows' own cells (each row's printed sentence says how): PropWrites: laid · PropTwo: laid · PropReads: laid · PropSays: laid · PropNamed: laid · PropBack: laid · PropLoose: laid · RuleTexts: laid.
  DERIVED. THE GIVEN ROWS OF THIS SEAT. 8 by the template 'for every input the law returns true; each argument reads behind the call as it read before'; 0 by the template 'total and deterministic' (their statements: YthkgnhfhjhcecaaGreatDoorTotals.lean).
  GIVEN WITH THE SEED: the statements are not yours to turn. If you find one false, say at which input.
  Laid BY PROGRAM, IN A SANDBOX (cutbox-rows.mjs): the forced cells as the released guide's own fill.sh prints them over the translation 9dca0f0c4da5dbd6… (all of the seat's roots in one cut). By AI agents, Wed Nov 11 2026. No macro, syntax, notation, axiom, sorry.
-/
import Derived.Test.YthkgnhfhjhcecaaGreatDoorChecked
import GoSem.PinnedTables
import GoSem.Claim
import GoSem.ClaimJoined
import GoSem.ClaimMapViews
import Derived.JoinedTies
import Derived.KernelRfl
namespace Go.Proofs.YthkgnhfhjhcecaaGreatDoor
/- THE CELL 'sum', in the pinned program and in every row, IS THE sha256 OF THE DUMP (.gsa) THAT YthkgnhfhjhcecaaGreatDoorProg.lean LOADS. Nothing in Lean hashes anything: it is a label: what it is worth is what the hold of that sum in a sandbox is worth. -/
noncomputable def Tryz.pinned : Pinned := { name := "ythkgnhfhjhcecaagreatdoor", sum := "9dca0f0c4da5dbd68493fee1f95337add278ef366f51c4cbde66c9691fe3916f", checked := Tryz.checked }
namespace Rows
def none {H : Type} : Left H := { results := [], args := [] }

/- WHAT THE LISTED PACKAGE-LEVEL VARIABLES READ AS WHEN THE CALL BEGINS. Each datum BY PROGRAM (the guide's laid-datum.mjs) off the statement by which the dump's own 'gosem.cut.vars' lays the variable. In a bare row this is a premise. The card (YthkgnhfhjhcecaaGreatDoorCards.lean) ties it to the program's text. -/
def laid_unicode_utf8_acceptRanges {H : Type} : DataW H := .agg [.agg [.lit (.int .u8 128), .lit (.int .u8 191)], .agg [.lit (.int .u8 160), .lit (.int .u8 191)], .agg [.lit (.int .u8 128), .lit (.int .u8 159)], .agg [.lit (.int .u8 144), .lit (.int .u8 191)], .agg [.lit (.int .u8 128), .lit (.int .u8 143)], .agg [.lit (.int .u8 0), .lit (.int .u8 0)], .agg [.lit (.int .u8 0), .lit (.int .u8 0)], .agg [.lit (.int .u8 0), .lit (.int .u8 0)], .agg [.lit (.int .u8 0), .lit (.int .u8 0)], .agg [.lit (.int .u8 0), .lit (.int .u8 0)], .agg [.lit (.int .u8 0), .lit (.int .u8 0)], .agg [.lit (.int .u8 0), .lit (.int .u8 0)], .agg [.lit (.int .u8 0), .lit (.int .u8 0)], .agg [.lit (.int .u8 0), .lit (.int .u8 0)], .agg [.lit (.int .u8 0), .lit (.int .u8 0)], .agg [.lit (.int .u8 0), .lit (.int .u8 0)]]
def laid_errors_errorType {H : Type} : DataW H := .iface "internal/reflectlite.rtype" (.agg [.ptr (.lit (.string [101, 114, 114, 111, 114]))])
def laid_virama_prop_errFile {H : Type} : DataW H := .iface "*errors.errorString" (.ptr (.agg [.lit (.string [110, 111, 32, 112, 114, 111, 112, 101, 114, 116, 121])]))
/-- One of Go's own tables, pinned by name: the form's constant. -/
def laid_unicode_utf8_first : DataW Unit := Go.Pinned.utf8First
def laid_virama_class_errClass {H : Type} : DataW H := .iface "*errors.errorString" (.ptr (.agg [.lit (.string [110, 111, 32, 115, 101, 116])]))
def laid_virama_pattern_errPattern {H : Type} : DataW H := .iface "*errors.errorString" (.ptr (.agg [.lit (.string [110, 111, 32, 112, 97, 116, 116, 101, 114, 110])]))

/-- 'viramalaw05.PropWrites': WHATEVER THE INPUT: true; the input reads as it did. -/
def propWritesSpec : ChangeSpec := { name := "propWrites", fn := fun _ => fun
  | [d1, d2] => { results := [.lit (.bool true)], args := [d1, d2] }
  | _ => none }
def propWritesRow : OpenClaim := { program := "ythkgnhfhjhcecaagreatdoor", sum := "9dca0f0c4da5dbd68493fee1f95337add278ef366f51c4cbde66c9691fe3916f", func := "virama/viramalaw05.PropWrites", spec := "propWrites", inPlace := ["internal/bytealg.CountString", "internal/bytealg.IndexByteString", "internal/bytealg.IndexString", "internal/reflectlite.ValueOf", "(internal/reflectlite.Value).Type", "(internal/reflectlite.Value).IsNil", "internal/reflectlite.TypeOf", "(internal/reflectlite.Value).Elem", "(internal/reflectlite.Value).Set", "internal/abi.NoEscape"], unfollowed := true, recurses := true, named := ["virama/prop.errFile", "unicode/utf8.first", "unicode/utf8.acceptRanges", "internal/bytealg.MaxLen", "errors.errorType"], apart := false, laid := [("unicode/utf8.acceptRanges", laid_unicode_utf8_acceptRanges), ("errors.errorType", laid_errors_errorType), ("virama/prop.errFile", laid_virama_prop_errFile), ("unicode/utf8.first", laid_unicode_utf8_first)] }
def PropWritesSaid : Prop := propWritesRow.holds Tryz.pinned (OpenSpec.ofChange propWritesSpec)

/-- ITS FALSE NEIGHBOUR: 'it returns false'. Refute it at one input. -/
def propWritesWrong : ChangeSpec := { name := "propWrites", fn := fun _ => fun
  | [d1, d2] => { results := [.lit (.bool false)], args := [d1, d2] }
  | _ => none }
def PropWritesWrongFalsely : Prop := propWritesRow.holds Tryz.pinned (OpenSpec.ofChange propWritesWrong)

/-- 'viramalaw05.PropTwo': WHATEVER THE INPUT: true; the input reads as it did. -/
def propTwoSpec : ChangeSpec := { name := "propTwo", fn := fun _ => fun
  | [d1, d2, d3, d4] => { results := [.lit (.bool true)], args := [d1, d2, d3, d4] }
  | _ => none }
def propTwoRow : OpenClaim := { program := "ythkgnhfhjhcecaagreatdoor", sum := "9dca0f0c4da5dbd68493fee1f95337add278ef366f51c4cbde66c9691fe3916f", func := "virama/viramalaw05.PropTwo", spec := "propTwo", inPlace := ["internal/bytealg.CountString", "internal/bytealg.IndexByteString", "internal/bytealg.IndexString", "internal/reflectlite.ValueOf", "(internal/reflectlite.Value).Type", "(internal/reflectlite.Value).IsNil", "internal/reflectlite.TypeOf", "(internal/reflectlite.Value).Elem", "(internal/reflectlite.Value).Set", "internal/abi.NoEscape"], unfollowed := true, recurses := true, named := ["virama/prop.errFile", "unicode/utf8.first", "unicode/utf8.acceptRanges", "internal/bytealg.MaxLen", "errors.errorType"], apart := false, laid := [("unicode/utf8.acceptRanges", laid_unicode_utf8_acceptRanges), ("errors.errorType", laid_errors_errorType), ("virama/prop.errFile", laid_virama_prop_errFile), ("unicode/utf8.first", laid_unicode_utf8_first)] }
def PropTwoSaid : Prop := propTwoRow.holds Tryz.pinned (OpenSpec.ofChange propTwoSpec)

/-- ITS FALSE NEIGHBOUR: 'it returns false'. Refute it at one input. -/
def propTwoWrong : ChangeSpec := { name := "propTwo", fn := fun _ => fun
  | [d1, d2, d3, d4] => { results := [.lit (.bool false)], args := [d1, d2, d3, d4] }
  | _ => none }
def PropTwoWrongFalsely : Prop := propTwoRow.holds Tryz.pinned (OpenSpec.ofChange propTwoWrong)

/-- 'viramalaw05.PropReads': WHATEVER THE INPUT: true; the input reads as it did. -/
def propReadsSpec : ChangeSpec := { name := "propReads", fn := fun _ => fun
  | [d1, d2, d3, d4, d5, d6] => { results := [.lit (.bool true)], args := [d1, d2, d3, d4, d5, d6] }
  | _ => none }
def propReadsRow : OpenClaim := { program := "ythkgnhfhjhcecaagreatdoor", sum := "9dca0f0c4da5dbd68493fee1f95337add278ef366f51c4cbde66c9691fe3916f", func := "virama/viramalaw05.PropReads", spec := "propReads", inPlace := ["internal/bytealg.CountString", "internal/bytealg.IndexByteString", "internal/bytealg.IndexString", "internal/reflectlite.ValueOf", "(internal/reflectlite.Value).Type", "(internal/reflectlite.Value).IsNil", "internal/reflectlite.TypeOf", "(internal/reflectlite.Value).Elem", "(internal/reflectlite.Value).Set", "internal/abi.NoEscape"], unfollowed := true, recurses := true, named := ["virama/prop.errFile", "unicode/utf8.first", "unicode/utf8.acceptRanges", "internal/bytealg.MaxLen", "errors.errorType"], apart := false, laid := [("unicode/utf8.acceptRanges", laid_unicode_utf8_acceptRanges), ("errors.errorType", laid_errors_errorType), ("virama/prop.errFile", laid_virama_prop_errFile), ("unicode/utf8.first", laid_unicode_utf8_first)] }
def PropReadsSaid : Prop := propReadsRow.holds Tryz.pinned (OpenSpec.ofChange propReadsSpec)

/-- ITS FALSE NEIGHBOUR: 'it returns false'. Refute it at one input. -/
def propReadsWrong : ChangeSpec := { name := "propReads", fn := fun _ => fun
  | [d1, d2, d3, d4, d5, d6] => { results := [.lit (.bool false)], args := [d1, d2, d3, d4, d5, d6] }
  | _ => none }
def PropReadsWrongFalsely : Prop := propReadsRow.holds Tryz.pinned (OpenSpec.ofChange propReadsWrong)

/-- 'viramalaw05.PropSays': WHATEVER THE INPUT: true; the input reads as it did. -/
def propSaysSpec : ChangeSpec := { name := "propSays", fn := fun _ => fun
  | [d1, d2, d3, d4] => { results := [.lit (.bool true)], args := [d1, d2, d3, d4] }
  | _ => none }
def propSaysRow : OpenClaim := { program := "ythkgnhfhjhcecaagreatdoor", sum := "9dca0f0c4da5dbd68493fee1f95337add278ef366f51c4cbde66c9691fe3916f", func := "virama/viramalaw05.PropSays", spec := "propSays", inPlace := ["internal/bytealg.CountString", "internal/bytealg.IndexByteString", "internal/bytealg.IndexString", "internal/reflectlite.ValueOf", "(internal/reflectlite.Value).Type", "(internal/reflectlite.Value).IsNil", "internal/reflectlite.TypeOf", "(internal/reflectlite.Value).Elem", "(internal/reflectlite.Value).Set", "internal/abi.NoEscape"], unfollowed := true, recurses := true, named := ["virama/prop.errFile", "unicode/utf8.first", "unicode/utf8.acceptRanges", "internal/bytealg.MaxLen", "errors.errorType"], apart := false, laid := [("unicode/utf8.acceptRanges", laid_unicode_utf8_acceptRanges), ("errors.errorType", laid_errors_errorType), ("virama/prop.errFile", laid_virama_prop_errFile), ("unicode/utf8.first", laid_unicode_utf8_first)] }
def PropSaysSaid : Prop := propSaysRow.holds Tryz.pinned (OpenSpec.ofChange propSaysSpec)

/-- ITS FALSE NEIGHBOUR: 'it returns false'. Refute it at one input. -/
def propSaysWrong : ChangeSpec := { name := "propSays", fn := fun _ => fun
  | [d1, d2, d3, d4] => { results := [.lit (.bool false)], args := [d1, d2, d3, d4] }
  | _ => none }
def PropSaysWrongFalsely : Prop := propSaysRow.holds Tryz.pinned (OpenSpec.ofChange propSaysWrong)

/-- 'viramalaw05.PropNamed': WHATEVER THE INPUT: true; the input reads as it did. -/
def propNamedSpec : ChangeSpec := { name := "propNamed", fn := fun _ => fun
  | [d1, d2, d3] => { results := [.lit (.bool true)], args := [d1, d2, d3] }
  | _ => none }
def propNamedRow : OpenClaim := { program := "ythkgnhfhjhcecaagreatdoor", sum := "9dca0f0c4da5dbd68493fee1f95337add278ef366f51c4cbde66c9691fe3916f", func := "virama/viramalaw05.PropNamed", spec := "propNamed", inPlace := ["internal/bytealg.CountString", "internal/bytealg.IndexByteString", "internal/bytealg.IndexString", "internal/reflectlite.ValueOf", "(internal/reflectlite.Value).Type", "(internal/reflectlite.Value).IsNil", "internal/reflectlite.TypeOf", "(internal/reflectlite.Value).Elem", "(internal/reflectlite.Value).Set", "internal/abi.NoEscape"], unfollowed := true, recurses := true, named := ["virama/prop.errFile", "unicode/utf8.first", "unicode/utf8.acceptRanges", "internal/bytealg.MaxLen", "errors.errorType"], apart := false, laid := [("unicode/utf8.acceptRanges", laid_unicode_utf8_acceptRanges), ("errors.errorType", laid_errors_errorType), ("virama/prop.errFile", laid_virama_prop_errFile), ("unicode/utf8.first", laid_unicode_utf8_first)] }
def PropNamedSaid : Prop := propNamedRow.holds Tryz.pinned (OpenSpec.ofChange propNamedSpec)

/-- ITS FALSE NEIGHBOUR: 'it returns false'. Refute it at one input. -/
def propNamedWrong : ChangeSpec := { name := "propNamed", fn := fun _ => fun
  | [d1, d2, d3] => { results := [.lit (.bool false)], args := [d1, d2, d3] }
  | _ => none }
def PropNamedWrongFalsely : Prop := propNamedRow.holds Tryz.pinned (OpenSpec.ofChange propNamedWrong)

/-- 'viramalaw05.PropBack': WHATEVER THE INPUT: true; the input reads as it did. -/
def propBackSpec : ChangeSpec := { name := "propBack", fn := fun _ => fun
  | [d1, d2] => { results := [.lit (.bool true)], args := [d1, d2] }
  | _ => none }
def propBackRow : OpenClaim := { program := "ythkgnhfhjhcecaagreatdoor", sum := "9dca0f0c4da5dbd68493fee1f95337add278ef366f51c4cbde66c9691fe3916f", func := "virama/viramalaw05.PropBack", spec := "propBack", inPlace := ["internal/bytealg.CountString", "internal/bytealg.IndexByteString", "internal/bytealg.IndexString", "internal/reflectlite.ValueOf", "(internal/reflectlite.Value).Type", "(internal/reflectlite.Value).IsNil", "internal/reflectlite.TypeOf", "(internal/reflectlite.Value).Elem", "(internal/reflectlite.Value).Set", "internal/abi.NoEscape"], unfollowed := true, recurses := true, named := ["virama/prop.errFile", "unicode/utf8.first", "unicode/utf8.acceptRanges", "internal/bytealg.MaxLen", "errors.errorType"], apart := false, laid := [("unicode/utf8.acceptRanges", laid_unicode_utf8_acceptRanges), ("errors.errorType", laid_errors_errorType), ("virama/prop.errFile", laid_virama_prop_errFile), ("unicode/utf8.first", laid_unicode_utf8_first)] }
def PropBackSaid : Prop := propBackRow.holds Tryz.pinned (OpenSpec.ofChange propBackSpec)

/-- ITS FALSE NEIGHBOUR: 'it returns false'. Refute it at one input. -/
def propBackWrong : ChangeSpec := { name := "propBack", fn := fun _ => fun
  | [d1, d2] => { results := [.lit (.bool false)], args := [d1, d2] }
  | _ => none }
def PropBackWrongFalsely : Prop := propBackRow.holds Tryz.pinned (OpenSpec.ofChange propBackWrong)

/-- 'viramalaw05.PropLoose': WHATEVER THE INPUT: true; the input reads as it did. -/
def propLooseSpec : ChangeSpec := { name := "propLoose", fn := fun _ => fun
  | [d1, d2, d3] => { results := [.lit (.bool true)], args := [d1, d2, d3] }
  | _ => none }
def propLooseRow : OpenClaim := { program := "ythkgnhfhjhcecaagreatdoor", sum := "9dca0f0c4da5dbd68493fee1f95337add278ef366f51c4cbde66c9691fe3916f", func := "virama/viramalaw05.PropLoose", spec := "propLoose", inPlace := ["internal/bytealg.CountString", "internal/bytealg.IndexByteString", "internal/bytealg.IndexString", "internal/reflectlite.ValueOf", "(internal/reflectlite.Value).Type", "(internal/reflectlite.Value).IsNil", "internal/reflectlite.TypeOf", "(internal/reflectlite.Value).Elem", "(internal/reflectlite.Value).Set", "internal/abi.NoEscape"], unfollowed := true, recurses := true, named := ["virama/prop.errFile", "unicode/utf8.first", "unicode/utf8.acceptRanges", "internal/bytealg.MaxLen", "errors.errorType"], apart := false, laid := [("unicode/utf8.acceptRanges", laid_unicode_utf8_acceptRanges), ("errors.errorType", laid_errors_errorType), ("virama/prop.errFile", laid_virama_prop_errFile), ("unicode/utf8.first", laid_unicode_utf8_first)] }
def PropLooseSaid : Prop := propLooseRow.holds Tryz.pinned (OpenSpec.ofChange propLooseSpec)

/-- ITS FALSE NEIGHBOUR: 'it returns false'. Refute it at one input. -/
def propLooseWrong : ChangeSpec := { name := "propLoose", fn := fun _ => fun
  | [d1, d2, d3] => { results := [.lit (.bool false)], args := [d1, d2, d3] }
  | _ => none }
def PropLooseWrongFalsely : Prop := propLooseRow.holds Tryz.pinned (OpenSpec.ofChange propLooseWrong)

/-- 'viramalaw11.RuleTexts': WHATEVER THE INPUT: true; the input reads as it did. -/
def ruleTextsSpec : ChangeSpec := { name := "ruleTexts", fn := fun _ => fun
  | [d1, d2, d3, d4] => { results := [.lit (.bool true)], args := [d1, d2, d3, d4] }
  | _ => none }
def ruleTextsRow : OpenClaim := { program := "ythkgnhfhjhcecaagreatdoor", sum := "9dca0f0c4da5dbd68493fee1f95337add278ef366f51c4cbde66c9691fe3916f", func := "virama/viramalaw11.RuleTexts", spec := "ruleTexts", inPlace := ["internal/abi.NoEscape", "internal/bytealg.CountString", "internal/bytealg.IndexByteString", "internal/bytealg.IndexString", "internal/reflectlite.ValueOf", "(internal/reflectlite.Value).Type", "(internal/reflectlite.Value).IsNil", "internal/reflectlite.TypeOf", "(internal/reflectlite.Value).Elem", "(internal/reflectlite.Value).Set", "internal/bytealg.MakeNoZero"], unfollowed := true, recurses := true, named := ["virama/pattern.errPattern", "unicode/utf8.first", "unicode/utf8.acceptRanges", "internal/bytealg.MaxLen", "virama/class.errClass", "errors.errorType"], apart := false, laid := [("unicode/utf8.acceptRanges", laid_unicode_utf8_acceptRanges), ("errors.errorType", laid_errors_errorType), ("virama/class.errClass", laid_virama_class_errClass), ("virama/pattern.errPattern", laid_virama_pattern_errPattern), ("unicode/utf8.first", laid_unicode_utf8_first)] }
def RuleTextsSaid : Prop := ruleTextsRow.holds Tryz.pinned (OpenSpec.ofChange ruleTextsSpec)

/-- ITS FALSE NEIGHBOUR: 'it returns false'. Refute it at one input. -/
def ruleTextsWrong : ChangeSpec := { name := "ruleTexts", fn := fun _ => fun
  | [d1, d2, d3, d4] => { results := [.lit (.bool false)], args := [d1, d2, d3, d4] }
  | _ => none }
def RuleTextsWrongFalsely : Prop := ruleTextsRow.holds Tryz.pinned (OpenSpec.ofChange ruleTextsWrong)

/- THE SECOND FORM. 'bulk': how many values and letters a reading holds, each counted each time it is reached (what is shared counts as often as it is met; a slice's spare places count too). A statement '..UptoSaid' is the law's where the arguments, and the package variables that the reading takes, are together of bulk at most 1048576: NARROWER than '..Said'. Prove '..Said' where nothing that the law and all that it calls make is longer than what came in: it says more and counts as full. Else prove '..UptoSaid'. A law counts once. -/
mutual
def uptoBulk {H : Type} : DataW H → Nat
  | .lit (.string bytes) => bytes.length + 1
  | .lit _ => 1
  | .nil => 1
  | .ptr d => uptoBulk d + 1
  | .slice elems spare => uptoBulkAll elems + uptoBulkAll spare + 1
  | .agg parts => uptoBulkAll parts + 1
  | .iface _ d => uptoBulk d + 1
  | .map entries => uptoBulkEntries entries + 1
  | .held _ => 1
def uptoBulkAll {H : Type} : List (DataW H) → Nat
  | [] => 0
  | d :: r => uptoBulk d + uptoBulkAll r
def uptoBulkEntries {H : Type} : List (Lit × DataW H) → Nat
  | [] => 0
  | x :: r => uptoBulkEntry x + uptoBulkEntries r
def uptoBulkEntry {H : Type} : Lit × DataW H → Nat
  | (.string bytes, d) => bytes.length + uptoBulk d + 1
  | (_, d) => uptoBulk d + 1
 end
def uptoSmall : (H : Type) → List (DataW H) → Bool := fun _ ds => decide (uptoBulkAll ds ≤ 1048576)
def OpenSpec.upto (s : _root_.Go.ChangeSpec) : _root_.Go.OpenSpec := { _root_.Go.OpenSpec.ofChange s with cond := some uptoSmall }

/-- 'viramalaw05.PropWrites', WHERE WHAT IT READS IS OF BULK AT MOST 1048576: true; the input reads as it did. -/
def propWritesUptoRow : OpenClaim := { program := "ythkgnhfhjhcecaagreatdoor", sum := "9dca0f0c4da5dbd68493fee1f95337add278ef366f51c4cbde66c9691fe3916f", func := "virama/viramalaw05.PropWrites", spec := "propWrites", inPlace := ["internal/bytealg.CountString", "internal/bytealg.IndexByteString", "internal/bytealg.IndexString", "internal/reflectlite.ValueOf", "(internal/reflectlite.Value).Type", "(internal/reflectlite.Value).IsNil", "internal/reflectlite.TypeOf", "(internal/reflectlite.Value).Elem", "(internal/reflectlite.Value).Set", "internal/abi.NoEscape"], unfollowed := true, recurses := true, named := ["virama/prop.errFile", "unicode/utf8.first", "unicode/utf8.acceptRanges", "internal/bytealg.MaxLen", "errors.errorType"], apart := false, laid := [("unicode/utf8.acceptRanges", laid_unicode_utf8_acceptRanges), ("errors.errorType", laid_errors_errorType), ("virama/prop.errFile", laid_virama_prop_errFile), ("unicode/utf8.first", laid_unicode_utf8_first)], narrowed := true }
def PropWritesUptoSaid : Prop := propWritesUptoRow.holds Tryz.pinned (OpenSpec.upto propWritesSpec)

/-- 'viramalaw05.PropTwo', WHERE WHAT IT READS IS OF BULK AT MOST 1048576: true; the input reads as it did. -/
def propTwoUptoRow : OpenClaim := { program := "ythkgnhfhjhcecaagreatdoor", sum := "9dca0f0c4da5dbd68493fee1f95337add278ef366f51c4cbde66c9691fe3916f", func := "virama/viramalaw05.PropTwo", spec := "propTwo", inPlace := ["internal/bytealg.CountString", "internal/bytealg.IndexByteString", "internal/bytealg.IndexString", "internal/reflectlite.ValueOf", "(internal/reflectlite.Value).Type", "(internal/reflectlite.Value).IsNil", "internal/reflectlite.TypeOf", "(internal/reflectlite.Value).Elem", "(internal/reflectlite.Value).Set", "internal/abi.NoEscape"], unfollowed := true, recurses := true, named := ["virama/prop.errFile", "unicode/utf8.first", "unicode/utf8.acceptRanges", "internal/bytealg.MaxLen", "errors.errorType"], apart := false, laid := [("unicode/utf8.acceptRanges", laid_unicode_utf8_acceptRanges), ("errors.errorType", laid_errors_errorType), ("virama/prop.errFile", laid_virama_prop_errFile), ("unicode/utf8.first", laid_unicode_utf8_first)], narrowed := true }
def PropTwoUptoSaid : Prop := propTwoUptoRow.holds Tryz.pinned (OpenSpec.upto propTwoSpec)

/-- 'viramalaw05.PropReads', WHERE WHAT IT READS IS OF BULK AT MOST 1048576: true; the input reads as it did. -/
def propReadsUptoRow : OpenClaim := { program := "ythkgnhfhjhcecaagreatdoor", sum := "9dca0f0c4da5dbd68493fee1f95337add278ef366f51c4cbde66c9691fe3916f", func := "virama/viramalaw05.PropReads", spec := "propReads", inPlace := ["internal/bytealg.CountString", "internal/bytealg.IndexByteString", "internal/bytealg.IndexString", "internal/reflectlite.ValueOf", "(internal/reflectlite.Value).Type", "(internal/reflectlite.Value).IsNil", "internal/reflectlite.TypeOf", "(internal/reflectlite.Value).Elem", "(internal/reflectlite.Value).Set", "internal/abi.NoEscape"], unfollowed := true, recurses := true, named := ["virama/prop.errFile", "unicode/utf8.first", "unicode/utf8.acceptRanges", "internal/bytealg.MaxLen", "errors.errorType"], apart := false, laid := [("unicode/utf8.acceptRanges", laid_unicode_utf8_acceptRanges), ("errors.errorType", laid_errors_errorType), ("virama/prop.errFile", laid_virama_prop_errFile), ("unicode/utf8.first", laid_unicode_utf8_first)], narrowed := true }
def PropReadsUptoSaid : Prop := propReadsUptoRow.holds Tryz.pinned (OpenSpec.upto propReadsSpec)

/-- 'viramalaw05.PropSays', WHERE WHAT IT READS IS OF BULK AT MOST 1048576: true; the input reads as it did. -/
def propSaysUptoRow : OpenClaim := { program := "ythkgnhfhjhcecaagreatdoor", sum := "9dca0f0c4da5dbd68493fee1f95337add278ef366f51c4cbde66c9691fe3916f", func := "virama/viramalaw05.PropSays", spec := "propSays", inPlace := ["internal/bytealg.CountString", "internal/bytealg.IndexByteString", "internal/bytealg.IndexString", "internal/reflectlite.ValueOf", "(internal/reflectlite.Value).Type", "(internal/reflectlite.Value).IsNil", "internal/reflectlite.TypeOf", "(internal/reflectlite.Value).Elem", "(internal/reflectlite.Value).Set", "internal/abi.NoEscape"], unfollowed := true, recurses := true, named := ["virama/prop.errFile", "unicode/utf8.first", "unicode/utf8.acceptRanges", "internal/bytealg.MaxLen", "errors.errorType"], apart := false, laid := [("unicode/utf8.acceptRanges", laid_unicode_utf8_acceptRanges), ("errors.errorType", laid_errors_errorType), ("virama/prop.errFile", laid_virama_prop_errFile), ("unicode/utf8.first", laid_unicode_utf8_first)], narrowed := true }
def PropSaysUptoSaid : Prop := propSaysUptoRow.holds Tryz.pinned (OpenSpec.upto propSaysSpec)

/-- 'viramalaw05.PropNamed', WHERE WHAT IT READS IS OF BULK AT MOST 1048576: true; the input reads as it did. -/
def propNamedUptoRow : OpenClaim := { program := "ythkgnhfhjhcecaagreatdoor", sum := "9dca0f0c4da5dbd68493fee1f95337add278ef366f51c4cbde66c9691fe3916f", func := "virama/viramalaw05.PropNamed", spec := "propNamed", inPlace := ["internal/bytealg.CountString", "internal/bytealg.IndexByteString", "internal/bytealg.IndexString", "internal/reflectlite.ValueOf", "(internal/reflectlite.Value).Type", "(internal/reflectlite.Value).IsNil", "internal/reflectlite.TypeOf", "(internal/reflectlite.Value).Elem", "(internal/reflectlite.Value).Set", "internal/abi.NoEscape"], unfollowed := true, recurses := true, named := ["virama/prop.errFile", "unicode/utf8.first", "unicode/utf8.acceptRanges", "internal/bytealg.MaxLen", "errors.errorType"], apart := false, laid := [("unicode/utf8.acceptRanges", laid_unicode_utf8_acceptRanges), ("errors.errorType", laid_errors_errorType), ("virama/prop.errFile", laid_virama_prop_errFile), ("unicode/utf8.first", laid_unicode_utf8_first)], narrowed := true }
def PropNamedUptoSaid : Prop := propNamedUptoRow.holds Tryz.pinned (OpenSpec.upto propNamedSpec)

/-- 'viramalaw05.PropBack', WHERE WHAT IT READS IS OF BULK AT MOST 1048576: true; the input reads as it did. -/
def propBackUptoRow : OpenClaim := { program := "ythkgnhfhjhcecaagreatdoor", sum := "9dca0f0c4da5dbd68493fee1f95337add278ef366f51c4cbde66c9691fe3916f", func := "virama/viramalaw05.PropBack", spec := "propBack", inPlace := ["internal/bytealg.CountString", "internal/bytealg.IndexByteString", "internal/bytealg.IndexString", "internal/reflectlite.ValueOf", "(internal/reflectlite.Value).Type", "(internal/reflectlite.Value).IsNil", "internal/reflectlite.TypeOf", "(internal/reflectlite.Value).Elem", "(internal/reflectlite.Value).Set", "internal/abi.NoEscape"], unfollowed := true, recurses := true, named := ["virama/prop.errFile", "unicode/utf8.first", "unicode/utf8.acceptRanges", "internal/bytealg.MaxLen", "errors.errorType"], apart := false, laid := [("unicode/utf8.acceptRanges", laid_unicode_utf8_acceptRanges), ("errors.errorType", laid_errors_errorType), ("virama/prop.errFile", laid_virama_prop_errFile), ("unicode/utf8.first", laid_unicode_utf8_first)], narrowed := true }
def PropBackUptoSaid : Prop := propBackUptoRow.holds Tryz.pinned (OpenSpec.upto propBackSpec)

/-- 'viramalaw05.PropLoose', WHERE WHAT IT READS IS OF BULK AT MOST 1048576: true; the input reads as it did. -/
def propLooseUptoRow : OpenClaim := { program := "ythkgnhfhjhcecaagreatdoor", sum := "9dca0f0c4da5dbd68493fee1f95337add278ef366f51c4cbde66c9691fe3916f", func := "virama/viramalaw05.PropLoose", spec := "propLoose", inPlace := ["internal/bytealg.CountString", "internal/bytealg.IndexByteString", "internal/bytealg.IndexString", "internal/reflectlite.ValueOf", "(internal/reflectlite.Value).Type", "(internal/reflectlite.Value).IsNil", "internal/reflectlite.TypeOf", "(internal/reflectlite.Value).Elem", "(internal/reflectlite.Value).Set", "internal/abi.NoEscape"], unfollowed := true, recurses := true, named := ["virama/prop.errFile", "unicode/utf8.first", "unicode/utf8.acceptRanges", "internal/bytealg.MaxLen", "errors.errorType"], apart := false, laid := [("unicode/utf8.acceptRanges", laid_unicode_utf8_acceptRanges), ("errors.errorType", laid_errors_errorType), ("virama/prop.errFile", laid_virama_prop_errFile), ("unicode/utf8.first", laid_unicode_utf8_first)], narrowed := true }
def PropLooseUptoSaid : Prop := propLooseUptoRow.holds Tryz.pinned (OpenSpec.upto propLooseSpec)

/-- 'viramalaw11.RuleTexts', WHERE WHAT IT READS IS OF BULK AT MOST 1048576: true; the input reads as it did. -/
def ruleTextsUptoRow : OpenClaim := { program := "ythkgnhfhjhcecaagreatdoor", sum := "9dca0f0c4da5dbd68493fee1f95337add278ef366f51c4cbde66c9691fe3916f", func := "virama/viramalaw11.RuleTexts", spec := "ruleTexts", inPlace := ["internal/abi.NoEscape", "internal/bytealg.CountString", "internal/bytealg.IndexByteString", "internal/bytealg.IndexString", "internal/reflectlite.ValueOf", "(internal/reflectlite.Value).Type", "(internal/reflectlite.Value).IsNil", "internal/reflectlite.TypeOf", "(internal/reflectlite.Value).Elem", "(internal/reflectlite.Value).Set", "internal/bytealg.MakeNoZero"], unfollowed := true, recurses := true, named := ["virama/pattern.errPattern", "unicode/utf8.first", "unicode/utf8.acceptRanges", "internal/bytealg.MaxLen", "virama/class.errClass", "errors.errorType"], apart := false, laid := [("unicode/utf8.acceptRanges", laid_unicode_utf8_acceptRanges), ("errors.errorType", laid_errors_errorType), ("virama/class.errClass", laid_virama_class_errClass), ("virama/pattern.errPattern", laid_virama_pattern_errPattern), ("unicode/utf8.first", laid_unicode_utf8_first)], narrowed := true }
def RuleTextsUptoSaid : Prop := ruleTextsUptoRow.holds Tryz.pinned (OpenSpec.upto ruleTextsSpec)

end Rows
end Go.Proofs.YthkgnhfhjhcecaaGreatDoor
