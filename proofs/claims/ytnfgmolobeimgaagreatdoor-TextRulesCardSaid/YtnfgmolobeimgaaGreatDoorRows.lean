/-
  NARROWER THAN 'FOR EVERY INPUT', by the rows' own cells (each row's printed sentence says how): TextCounts: laid · TextIs: laid · TextWhole: laid · TextRules: laid.
  DERIVED. THE GIVEN ROWS OF THIS SEAT. 4 by the template 'for every input the law returns true; each argument reads behind the call as it read before'; 0 by the template 'total and deterministic' (their statements: YtnfgmolobeimgaaGreatDoorTotals.lean).
  GIVEN WITH THE SEED: the statements are not yours to turn. If you find one false, say at which input.
  Laid BY PROGRAM, IN A SANDBOX (cutbox-rows.mjs): the forced cells as the released guide's own fill.sh prints them over the translation d29db8bb9e5b444a… (all of the seat's roots in one cut). By AI agents, Wed Nov 11 2026. No macro, syntax, notation, axiom, sorry.
-/
import Derived.Test.YtnfgmolobeimgaaGreatDoorChecked
import GoSem.PinnedTables
import GoSem.Claim
import GoSem.ClaimJoined
import GoSem.ClaimMapViews
import Derived.JoinedTies
import Derived.KernelRfl
namespace Go.Proofs.YtnfgmolobeimgaaGreatDoor
/- THE CELL 'sum', in the pinned program and in every row, IS THE sha256 OF THE DUMP (.gsa) THAT YtnfgmolobeimgaaGreatDoorProg.lean LOADS. Nothing in Lean hashes anything: it is a label: what it is worth is what the hold of that sum in a sandbox is worth. -/
noncomputable def Tryz.pinned : Pinned := { name := "ytnfgmolobeimgaagreatdoor", sum := "d29db8bb9e5b444ab74443dbd7d375bebd19a93a2239792ed9ead224b13800ab", checked := Tryz.checked }
namespace Rows
def none {H : Type} : Left H := { results := [], args := [] }

/- WHAT THE LISTED PACKAGE-LEVEL VARIABLES READ AS WHEN THE CALL BEGINS. Each datum BY PROGRAM (the guide's laid-datum.mjs) off the statement by which the dump's own 'gosem.cut.vars' lays the variable. In a bare row this is a premise. The card (YtnfgmolobeimgaaGreatDoorCards.lean) ties it to the program's text. -/
def laid_unicode_utf8_acceptRanges {H : Type} : DataW H := .agg [.agg [.lit (.int .u8 128), .lit (.int .u8 191)], .agg [.lit (.int .u8 160), .lit (.int .u8 191)], .agg [.lit (.int .u8 128), .lit (.int .u8 159)], .agg [.lit (.int .u8 144), .lit (.int .u8 191)], .agg [.lit (.int .u8 128), .lit (.int .u8 143)], .agg [.lit (.int .u8 0), .lit (.int .u8 0)], .agg [.lit (.int .u8 0), .lit (.int .u8 0)], .agg [.lit (.int .u8 0), .lit (.int .u8 0)], .agg [.lit (.int .u8 0), .lit (.int .u8 0)], .agg [.lit (.int .u8 0), .lit (.int .u8 0)], .agg [.lit (.int .u8 0), .lit (.int .u8 0)], .agg [.lit (.int .u8 0), .lit (.int .u8 0)], .agg [.lit (.int .u8 0), .lit (.int .u8 0)], .agg [.lit (.int .u8 0), .lit (.int .u8 0)], .agg [.lit (.int .u8 0), .lit (.int .u8 0)], .agg [.lit (.int .u8 0), .lit (.int .u8 0)]]
def laid_errors_errorType {H : Type} : DataW H := .iface "internal/reflectlite.rtype" (.agg [.ptr (.lit (.string [101, 114, 114, 111, 114]))])
def laid_virama_scalar_errScalar {H : Type} : DataW H := .iface "*errors.errorString" (.ptr (.agg [.lit (.string [110, 111, 32, 115, 99, 97, 108, 97, 114])]))
def laid_virama_scalar_errUtf {H : Type} : DataW H := .iface "*errors.errorString" (.ptr (.agg [.lit (.string [110, 111, 116, 32, 119, 101, 108, 108, 45, 102, 111, 114, 109, 101, 100])]))
def laid_virama_prop_errFile {H : Type} : DataW H := .iface "*errors.errorString" (.ptr (.agg [.lit (.string [110, 111, 32, 112, 114, 111, 112, 101, 114, 116, 121])]))
def laid_virama_class_errClass {H : Type} : DataW H := .iface "*errors.errorString" (.ptr (.agg [.lit (.string [110, 111, 32, 115, 101, 116])]))
def laid_virama_pattern_errPattern {H : Type} : DataW H := .iface "*errors.errorString" (.ptr (.agg [.lit (.string [110, 111, 32, 112, 97, 116, 116, 101, 114, 110])]))
def laid_virama_nfa_errPattern {H : Type} : DataW H := .iface "*errors.errorString" (.ptr (.agg [.lit (.string [110, 111, 32, 112, 97, 116, 116, 101, 114, 110])]))
def laid_virama_dfa_errRule {H : Type} : DataW H := .iface "*errors.errorString" (.ptr (.agg [.lit (.string [110, 111, 32, 114, 117, 108, 101, 115])]))
def laid_virama_dfa_errMachine {H : Type} : DataW H := .iface "*errors.errorString" (.ptr (.agg [.lit (.string [110, 111, 32, 109, 97, 99, 104, 105, 110, 101])]))
def laid_virama_seg_errCut {H : Type} : DataW H := .iface "*errors.errorString" (.ptr (.agg [.lit (.string [110, 111, 32, 99, 117, 116, 115])]))
def laid_virama_trie_errTrie {H : Type} : DataW H := .iface "*errors.errorString" (.ptr (.agg [.lit (.string [110, 111, 32, 116, 114, 105, 101])]))
def laid_virama_trie_errRange {H : Type} : DataW H := .iface "*errors.errorString" (.ptr (.agg [.lit (.string [110, 111, 32, 109, 97, 112])]))
/-- One of Go's own tables, pinned by name: the form's constant. -/
def laid_unicode_utf8_first : DataW Unit := Go.Pinned.utf8First

/-- 'viramalaw14.TextCounts': WHATEVER THE INPUT: true; the input reads as it did. -/
def textCountsSpec : ChangeSpec := { name := "textCounts", fn := fun _ => fun
  | [d1, d2] => { results := [.lit (.bool true)], args := [d1, d2] }
  | _ => none }
def textCountsRow : OpenClaim := { program := "ytnfgmolobeimgaagreatdoor", sum := "d29db8bb9e5b444ab74443dbd7d375bebd19a93a2239792ed9ead224b13800ab", func := "virama/viramalaw14.TextCounts", spec := "textCounts", inPlace := ["internal/bytealg.CountString", "internal/bytealg.IndexByteString", "internal/bytealg.IndexString", "internal/reflectlite.ValueOf", "(internal/reflectlite.Value).Type", "(internal/reflectlite.Value).IsNil", "internal/reflectlite.TypeOf", "(internal/reflectlite.Value).Elem", "(internal/reflectlite.Value).Set", "internal/abi.NoEscape"], unfollowed := true, recurses := true, named := ["virama/prop.errFile", "unicode/utf8.first", "unicode/utf8.acceptRanges", "internal/bytealg.MaxLen", "errors.errorType", "virama/trie.errRange", "virama/trie.errTrie", "virama/pattern.errPattern", "virama/class.errClass", "virama/dfa.errRule", "virama/dfa.errMachine", "virama/nfa.errPattern", "virama/seg.errCut", "virama/scalar.errScalar", "virama/scalar.errUtf"], plainKeys := false, apart := false, laid := [("unicode/utf8.acceptRanges", laid_unicode_utf8_acceptRanges), ("errors.errorType", laid_errors_errorType), ("virama/scalar.errScalar", laid_virama_scalar_errScalar), ("virama/scalar.errUtf", laid_virama_scalar_errUtf), ("virama/prop.errFile", laid_virama_prop_errFile), ("virama/class.errClass", laid_virama_class_errClass), ("virama/pattern.errPattern", laid_virama_pattern_errPattern), ("virama/nfa.errPattern", laid_virama_nfa_errPattern), ("virama/dfa.errRule", laid_virama_dfa_errRule), ("virama/dfa.errMachine", laid_virama_dfa_errMachine), ("virama/seg.errCut", laid_virama_seg_errCut), ("virama/trie.errTrie", laid_virama_trie_errTrie), ("virama/trie.errRange", laid_virama_trie_errRange), ("unicode/utf8.first", laid_unicode_utf8_first)] }
def TextCountsSaid : Prop := textCountsRow.holds Tryz.pinned (OpenSpec.ofChange textCountsSpec)

/-- ITS FALSE NEIGHBOUR: 'it returns false'. Refute it at one input. -/
def textCountsWrong : ChangeSpec := { name := "textCounts", fn := fun _ => fun
  | [d1, d2] => { results := [.lit (.bool false)], args := [d1, d2] }
  | _ => none }
def TextCountsWrongFalsely : Prop := textCountsRow.holds Tryz.pinned (OpenSpec.ofChange textCountsWrong)

/-- 'viramalaw14.TextIs': WHATEVER THE INPUT: true; the input reads as it did. -/
def textIsSpec : ChangeSpec := { name := "textIs", fn := fun _ => fun
  | [d1, d2, d3] => { results := [.lit (.bool true)], args := [d1, d2, d3] }
  | _ => none }
def textIsRow : OpenClaim := { program := "ytnfgmolobeimgaagreatdoor", sum := "d29db8bb9e5b444ab74443dbd7d375bebd19a93a2239792ed9ead224b13800ab", func := "virama/viramalaw14.TextIs", spec := "textIs", inPlace := ["internal/bytealg.CountString", "internal/bytealg.IndexByteString", "internal/bytealg.IndexString", "internal/reflectlite.ValueOf", "(internal/reflectlite.Value).Type", "(internal/reflectlite.Value).IsNil", "internal/reflectlite.TypeOf", "(internal/reflectlite.Value).Elem", "(internal/reflectlite.Value).Set", "internal/abi.NoEscape"], unfollowed := true, recurses := true, named := ["virama/prop.errFile", "unicode/utf8.first", "unicode/utf8.acceptRanges", "internal/bytealg.MaxLen", "errors.errorType", "virama/trie.errRange", "virama/trie.errTrie", "virama/pattern.errPattern", "virama/class.errClass", "virama/dfa.errRule", "virama/dfa.errMachine", "virama/nfa.errPattern", "virama/seg.errCut", "virama/scalar.errScalar", "virama/scalar.errUtf"], plainKeys := false, apart := false, laid := [("unicode/utf8.acceptRanges", laid_unicode_utf8_acceptRanges), ("errors.errorType", laid_errors_errorType), ("virama/scalar.errScalar", laid_virama_scalar_errScalar), ("virama/scalar.errUtf", laid_virama_scalar_errUtf), ("virama/prop.errFile", laid_virama_prop_errFile), ("virama/class.errClass", laid_virama_class_errClass), ("virama/pattern.errPattern", laid_virama_pattern_errPattern), ("virama/nfa.errPattern", laid_virama_nfa_errPattern), ("virama/dfa.errRule", laid_virama_dfa_errRule), ("virama/dfa.errMachine", laid_virama_dfa_errMachine), ("virama/seg.errCut", laid_virama_seg_errCut), ("virama/trie.errTrie", laid_virama_trie_errTrie), ("virama/trie.errRange", laid_virama_trie_errRange), ("unicode/utf8.first", laid_unicode_utf8_first)] }
def TextIsSaid : Prop := textIsRow.holds Tryz.pinned (OpenSpec.ofChange textIsSpec)

/-- ITS FALSE NEIGHBOUR: 'it returns false'. Refute it at one input. -/
def textIsWrong : ChangeSpec := { name := "textIs", fn := fun _ => fun
  | [d1, d2, d3] => { results := [.lit (.bool false)], args := [d1, d2, d3] }
  | _ => none }
def TextIsWrongFalsely : Prop := textIsRow.holds Tryz.pinned (OpenSpec.ofChange textIsWrong)

/-- 'viramalaw14.TextWhole': WHATEVER THE INPUT: true; the input reads as it did. -/
def textWholeSpec : ChangeSpec := { name := "textWhole", fn := fun _ => fun
  | [d1, d2] => { results := [.lit (.bool true)], args := [d1, d2] }
  | _ => none }
def textWholeRow : OpenClaim := { program := "ytnfgmolobeimgaagreatdoor", sum := "d29db8bb9e5b444ab74443dbd7d375bebd19a93a2239792ed9ead224b13800ab", func := "virama/viramalaw14.TextWhole", spec := "textWhole", inPlace := ["internal/bytealg.CountString", "internal/bytealg.IndexByteString", "internal/bytealg.IndexString", "internal/reflectlite.ValueOf", "(internal/reflectlite.Value).Type", "(internal/reflectlite.Value).IsNil", "internal/reflectlite.TypeOf", "(internal/reflectlite.Value).Elem", "(internal/reflectlite.Value).Set", "internal/abi.NoEscape"], unfollowed := true, recurses := true, named := ["virama/prop.errFile", "unicode/utf8.first", "unicode/utf8.acceptRanges", "internal/bytealg.MaxLen", "errors.errorType", "virama/trie.errRange", "virama/trie.errTrie", "virama/pattern.errPattern", "virama/class.errClass", "virama/dfa.errRule", "virama/dfa.errMachine", "virama/nfa.errPattern", "virama/seg.errCut", "virama/scalar.errScalar", "virama/scalar.errUtf"], plainKeys := false, apart := false, laid := [("unicode/utf8.acceptRanges", laid_unicode_utf8_acceptRanges), ("errors.errorType", laid_errors_errorType), ("virama/scalar.errScalar", laid_virama_scalar_errScalar), ("virama/scalar.errUtf", laid_virama_scalar_errUtf), ("virama/prop.errFile", laid_virama_prop_errFile), ("virama/class.errClass", laid_virama_class_errClass), ("virama/pattern.errPattern", laid_virama_pattern_errPattern), ("virama/nfa.errPattern", laid_virama_nfa_errPattern), ("virama/dfa.errRule", laid_virama_dfa_errRule), ("virama/dfa.errMachine", laid_virama_dfa_errMachine), ("virama/seg.errCut", laid_virama_seg_errCut), ("virama/trie.errTrie", laid_virama_trie_errTrie), ("virama/trie.errRange", laid_virama_trie_errRange), ("unicode/utf8.first", laid_unicode_utf8_first)] }
def TextWholeSaid : Prop := textWholeRow.holds Tryz.pinned (OpenSpec.ofChange textWholeSpec)

/-- ITS FALSE NEIGHBOUR: 'it returns false'. Refute it at one input. -/
def textWholeWrong : ChangeSpec := { name := "textWhole", fn := fun _ => fun
  | [d1, d2] => { results := [.lit (.bool false)], args := [d1, d2] }
  | _ => none }
def TextWholeWrongFalsely : Prop := textWholeRow.holds Tryz.pinned (OpenSpec.ofChange textWholeWrong)

/-- 'viramalaw14.TextRules': WHATEVER THE INPUT: true; the input reads as it did. -/
def textRulesSpec : ChangeSpec := { name := "textRules", fn := fun _ => fun
  | [d1, d2, d3, d4] => { results := [.lit (.bool true)], args := [d1, d2, d3, d4] }
  | _ => none }
def textRulesRow : OpenClaim := { program := "ytnfgmolobeimgaagreatdoor", sum := "d29db8bb9e5b444ab74443dbd7d375bebd19a93a2239792ed9ead224b13800ab", func := "virama/viramalaw14.TextRules", spec := "textRules", inPlace := ["internal/bytealg.CountString", "internal/bytealg.IndexByteString", "internal/bytealg.IndexString", "internal/reflectlite.ValueOf", "(internal/reflectlite.Value).Type", "(internal/reflectlite.Value).IsNil", "internal/reflectlite.TypeOf", "(internal/reflectlite.Value).Elem", "(internal/reflectlite.Value).Set", "internal/abi.NoEscape"], unfollowed := true, recurses := true, named := ["virama/prop.errFile", "unicode/utf8.first", "unicode/utf8.acceptRanges", "internal/bytealg.MaxLen", "errors.errorType", "virama/trie.errRange", "virama/trie.errTrie", "virama/pattern.errPattern", "virama/class.errClass", "virama/dfa.errRule", "virama/dfa.errMachine", "virama/nfa.errPattern", "virama/seg.errCut", "virama/scalar.errScalar", "virama/scalar.errUtf"], plainKeys := false, apart := false, laid := [("unicode/utf8.acceptRanges", laid_unicode_utf8_acceptRanges), ("errors.errorType", laid_errors_errorType), ("virama/scalar.errScalar", laid_virama_scalar_errScalar), ("virama/scalar.errUtf", laid_virama_scalar_errUtf), ("virama/prop.errFile", laid_virama_prop_errFile), ("virama/class.errClass", laid_virama_class_errClass), ("virama/pattern.errPattern", laid_virama_pattern_errPattern), ("virama/nfa.errPattern", laid_virama_nfa_errPattern), ("virama/dfa.errRule", laid_virama_dfa_errRule), ("virama/dfa.errMachine", laid_virama_dfa_errMachine), ("virama/seg.errCut", laid_virama_seg_errCut), ("virama/trie.errTrie", laid_virama_trie_errTrie), ("virama/trie.errRange", laid_virama_trie_errRange), ("unicode/utf8.first", laid_unicode_utf8_first)] }
def TextRulesSaid : Prop := textRulesRow.holds Tryz.pinned (OpenSpec.ofChange textRulesSpec)

/-- ITS FALSE NEIGHBOUR: 'it returns false'. Refute it at one input. -/
def textRulesWrong : ChangeSpec := { name := "textRules", fn := fun _ => fun
  | [d1, d2, d3, d4] => { results := [.lit (.bool false)], args := [d1, d2, d3, d4] }
  | _ => none }
def TextRulesWrongFalsely : Prop := textRulesRow.holds Tryz.pinned (OpenSpec.ofChange textRulesWrong)

/- THE SECOND FORM. 'bulk': how many values and letters a reading holds, each counted each time it is reached (what is shared counts as often as it is met; a slice's spare places count too). A statement '..UptoSaid' is the law's where the arguments, and the package variables that the reading takes, are together of bulk at most 1048576: NARROWER than '..Said'. Prove '..Said' where nothing that the law and all that it calls make is longer than what came in: it says more and counts as full. Else prove '..UptoSaid'. A law counts once. -/
mutual
def uptoBulk {H : Type} : DataW H → Nat
  | .lit (.string bytes) => bytes.length + 1
  | .lit _ => 1
  | .nil => 1
  | .ptr d => uptoBulk d + 1
  | .slice elems spare => uptoBulkAll elems + uptoBulkAll spare + 1
  | .agg parts => uptoBulkAll parts + 1
  | .iface _ d => uptoBulk d + 1
  | .map entries => uptoBulkEntries entries + 1
  | .held _ => 1
def uptoBulkAll {H : Type} : List (DataW H) → Nat
  | [] => 0
  | d :: r => uptoBulk d + uptoBulkAll r
def uptoBulkEntries {H : Type} : List (Lit × DataW H) → Nat
  | [] => 0
  | x :: r => uptoBulkEntry x + uptoBulkEntries r
def uptoBulkEntry {H : Type} : Lit × DataW H → Nat
  | (.string bytes, d) => bytes.length + uptoBulk d + 1
  | (_, d) => uptoBulk d + 1
 end
def uptoSmall : (H : Type) → List (DataW H) → Bool := fun _ ds => decide (uptoBulkAll ds ≤ 1048576)
def OpenSpec.upto (s : _root_.Go.ChangeSpec) : _root_.Go.OpenSpec := { _root_.Go.OpenSpec.ofChange s with cond := some uptoSmall }

/-- 'viramalaw14.TextCounts', WHERE WHAT IT READS IS OF BULK AT MOST 1048576: true; the input reads as it did. -/
def textCountsUptoRow : OpenClaim := { program := "ytnfgmolobeimgaagreatdoor", sum := "d29db8bb9e5b444ab74443dbd7d375bebd19a93a2239792ed9ead224b13800ab", func := "virama/viramalaw14.TextCounts", spec := "textCounts", inPlace := ["internal/bytealg.CountString", "internal/bytealg.IndexByteString", "internal/bytealg.IndexString", "internal/reflectlite.ValueOf", "(internal/reflectlite.Value).Type", "(internal/reflectlite.Value).IsNil", "internal/reflectlite.TypeOf", "(internal/reflectlite.Value).Elem", "(internal/reflectlite.Value).Set", "internal/abi.NoEscape"], unfollowed := true, recurses := true, named := ["virama/prop.errFile", "unicode/utf8.first", "unicode/utf8.acceptRanges", "internal/bytealg.MaxLen", "errors.errorType", "virama/trie.errRange", "virama/trie.errTrie", "virama/pattern.errPattern", "virama/class.errClass", "virama/dfa.errRule", "virama/dfa.errMachine", "virama/nfa.errPattern", "virama/seg.errCut", "virama/scalar.errScalar", "virama/scalar.errUtf"], plainKeys := false, apart := false, laid := [("unicode/utf8.acceptRanges", laid_unicode_utf8_acceptRanges), ("errors.errorType", laid_errors_errorType), ("virama/scalar.errScalar", laid_virama_scalar_errScalar), ("virama/scalar.errUtf", laid_virama_scalar_errUtf), ("virama/prop.errFile", laid_virama_prop_errFile), ("virama/class.errClass", laid_virama_class_errClass), ("virama/pattern.errPattern", laid_virama_pattern_errPattern), ("virama/nfa.errPattern", laid_virama_nfa_errPattern), ("virama/dfa.errRule", laid_virama_dfa_errRule), ("virama/dfa.errMachine", laid_virama_dfa_errMachine), ("virama/seg.errCut", laid_virama_seg_errCut), ("virama/trie.errTrie", laid_virama_trie_errTrie), ("virama/trie.errRange", laid_virama_trie_errRange), ("unicode/utf8.first", laid_unicode_utf8_first)], narrowed := true }
def TextCountsUptoSaid : Prop := textCountsUptoRow.holds Tryz.pinned (OpenSpec.upto textCountsSpec)

/-- 'viramalaw14.TextIs', WHERE WHAT IT READS IS OF BULK AT MOST 1048576: true; the input reads as it did. -/
def textIsUptoRow : OpenClaim := { program := "ytnfgmolobeimgaagreatdoor", sum := "d29db8bb9e5b444ab74443dbd7d375bebd19a93a2239792ed9ead224b13800ab", func := "virama/viramalaw14.TextIs", spec := "textIs", inPlace := ["internal/bytealg.CountString", "internal/bytealg.IndexByteString", "internal/bytealg.IndexString", "internal/reflectlite.ValueOf", "(internal/reflectlite.Value).Type", "(internal/reflectlite.Value).IsNil", "internal/reflectlite.TypeOf", "(internal/reflectlite.Value).Elem", "(internal/reflectlite.Value).Set", "internal/abi.NoEscape"], unfollowed := true, recurses := true, named := ["virama/prop.errFile", "unicode/utf8.first", "unicode/utf8.acceptRanges", "internal/bytealg.MaxLen", "errors.errorType", "virama/trie.errRange", "virama/trie.errTrie", "virama/pattern.errPattern", "virama/class.errClass", "virama/dfa.errRule", "virama/dfa.errMachine", "virama/nfa.errPattern", "virama/seg.errCut", "virama/scalar.errScalar", "virama/scalar.errUtf"], plainKeys := false, apart := false, laid := [("unicode/utf8.acceptRanges", laid_unicode_utf8_acceptRanges), ("errors.errorType", laid_errors_errorType), ("virama/scalar.errScalar", laid_virama_scalar_errScalar), ("virama/scalar.errUtf", laid_virama_scalar_errUtf), ("virama/prop.errFile", laid_virama_prop_errFile), ("virama/class.errClass", laid_virama_class_errClass), ("virama/pattern.errPattern", laid_virama_pattern_errPattern), ("virama/nfa.errPattern", laid_virama_nfa_errPattern), ("virama/dfa.errRule", laid_virama_dfa_errRule), ("virama/dfa.errMachine", laid_virama_dfa_errMachine), ("virama/seg.errCut", laid_virama_seg_errCut), ("virama/trie.errTrie", laid_virama_trie_errTrie), ("virama/trie.errRange", laid_virama_trie_errRange), ("unicode/utf8.first", laid_unicode_utf8_first)], narrowed := true }
def TextIsUptoSaid : Prop := textIsUptoRow.holds Tryz.pinned (OpenSpec.upto textIsSpec)

/-- 'viramalaw14.TextWhole', WHERE WHAT IT READS IS OF BULK AT MOST 1048576: true; the input reads as it did. -/
def textWholeUptoRow : OpenClaim := { program := "ytnfgmolobeimgaagreatdoor", sum := "d29db8bb9e5b444ab74443dbd7d375bebd19a93a2239792ed9ead224b13800ab", func := "virama/viramalaw14.TextWhole", spec := "textWhole", inPlace := ["internal/bytealg.CountString", "internal/bytealg.IndexByteString", "internal/bytealg.IndexString", "internal/reflectlite.ValueOf", "(internal/reflectlite.Value).Type", "(internal/reflectlite.Value).IsNil", "internal/reflectlite.TypeOf", "(internal/reflectlite.Value).Elem", "(internal/reflectlite.Value).Set", "internal/abi.NoEscape"], unfollowed := true, recurses := true, named := ["virama/prop.errFile", "unicode/utf8.first", "unicode/utf8.acceptRanges", "internal/bytealg.MaxLen", "errors.errorType", "virama/trie.errRange", "virama/trie.errTrie", "virama/pattern.errPattern", "virama/class.errClass", "virama/dfa.errRule", "virama/dfa.errMachine", "virama/nfa.errPattern", "virama/seg.errCut", "virama/scalar.errScalar", "virama/scalar.errUtf"], plainKeys := false, apart := false, laid := [("unicode/utf8.acceptRanges", laid_unicode_utf8_acceptRanges), ("errors.errorType", laid_errors_errorType), ("virama/scalar.errScalar", laid_virama_scalar_errScalar), ("virama/scalar.errUtf", laid_virama_scalar_errUtf), ("virama/prop.errFile", laid_virama_prop_errFile), ("virama/class.errClass", laid_virama_class_errClass), ("virama/pattern.errPattern", laid_virama_pattern_errPattern), ("virama/nfa.errPattern", laid_virama_nfa_errPattern), ("virama/dfa.errRule", laid_virama_dfa_errRule), ("virama/dfa.errMachine", laid_virama_dfa_errMachine), ("virama/seg.errCut", laid_virama_seg_errCut), ("virama/trie.errTrie", laid_virama_trie_errTrie), ("virama/trie.errRange", laid_virama_trie_errRange), ("unicode/utf8.first", laid_unicode_utf8_first)], narrowed := true }
def TextWholeUptoSaid : Prop := textWholeUptoRow.holds Tryz.pinned (OpenSpec.upto textWholeSpec)

/-- 'viramalaw14.TextRules', WHERE WHAT IT READS IS OF BULK AT MOST 1048576: true; the input reads as it did. -/
def textRulesUptoRow : OpenClaim := { program := "ytnfgmolobeimgaagreatdoor", sum := "d29db8bb9e5b444ab74443dbd7d375bebd19a93a2239792ed9ead224b13800ab", func := "virama/viramalaw14.TextRules", spec := "textRules", inPlace := ["internal/bytealg.CountString", "internal/bytealg.IndexByteString", "internal/bytealg.IndexString", "internal/reflectlite.ValueOf", "(internal/reflectlite.Value).Type", "(internal/reflectlite.Value).IsNil", "internal/reflectlite.TypeOf", "(internal/reflectlite.Value).Elem", "(internal/reflectlite.Value).Set", "internal/abi.NoEscape"], unfollowed := true, recurses := true, named := ["virama/prop.errFile", "unicode/utf8.first", "unicode/utf8.acceptRanges", "internal/bytealg.MaxLen", "errors.errorType", "virama/trie.errRange", "virama/trie.errTrie", "virama/pattern.errPattern", "virama/class.errClass", "virama/dfa.errRule", "virama/dfa.errMachine", "virama/nfa.errPattern", "virama/seg.errCut", "virama/scalar.errScalar", "virama/scalar.errUtf"], plainKeys := false, apart := false, laid := [("unicode/utf8.acceptRanges", laid_unicode_utf8_acceptRanges), ("errors.errorType", laid_errors_errorType), ("virama/scalar.errScalar", laid_virama_scalar_errScalar), ("virama/scalar.errUtf", laid_virama_scalar_errUtf), ("virama/prop.errFile", laid_virama_prop_errFile), ("virama/class.errClass", laid_virama_class_errClass), ("virama/pattern.errPattern", laid_virama_pattern_errPattern), ("virama/nfa.errPattern", laid_virama_nfa_errPattern), ("virama/dfa.errRule", laid_virama_dfa_errRule), ("virama/dfa.errMachine", laid_virama_dfa_errMachine), ("virama/seg.errCut", laid_virama_seg_errCut), ("virama/trie.errTrie", laid_virama_trie_errTrie), ("virama/trie.errRange", laid_virama_trie_errRange), ("unicode/utf8.first", laid_unicode_utf8_first)], narrowed := true }
def TextRulesUptoSaid : Prop := textRulesUptoRow.holds Tryz.pinned (OpenSpec.upto textRulesSpec)

end Rows
end Go.Proofs.YtnfgmolobeimgaaGreatDoor
