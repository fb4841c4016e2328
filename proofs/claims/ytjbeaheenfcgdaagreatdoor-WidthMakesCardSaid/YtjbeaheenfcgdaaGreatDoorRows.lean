/-
  NARROWER THAN 'FOR EVERY INPUT', by the rows' own cells (each row's printed sentence says how): PropReads: laid · WidthMakes: laid · WidthTells: laid · WidthWide: laid · WidthLonger: laid · WidthNone: laid · WidthCounts: laid · WidthSums: laid · WidthFits: laid.
  DERIVED. THE GIVEN ROWS OF THIS SEAT. 9 by the template 'for every input the law returns true; each argument reads behind the call as it read before'; 0 by the template 'total and deterministic' (their statements: YtjbeaheenfcgdaaGreatDoorTotals.lean).
  GIVEN WITH THE SEED: the statements are not yours to turn. If you find one false, say at which input.
  Laid BY PROGRAM, IN A SANDBOX (cutbox-rows.mjs): the forced cells as the released guide's own fill.sh prints them over the translation 0f3cf28e2e133a0d… (all of the seat's roots in one cut). By AI agents, Wed Nov 11 2026. No macro, syntax, notation, axiom, sorry.
-/
import Derived.Test.YtjbeaheenfcgdaaGreatDoorChecked
import GoSem.PinnedTables
import GoSem.Claim
import GoSem.ClaimJoined
import GoSem.ClaimMapViews
import Derived.JoinedTies
import Derived.KernelRfl
namespace Go.Proofs.YtjbeaheenfcgdaaGreatDoor
/- THE CELL 'sum', in the pinned program and in every row, IS THE sha256 OF THE DUMP (.gsa) THAT YtjbeaheenfcgdaaGreatDoorProg.lean LOADS. Nothing in Lean hashes anything: it is a label: what it is worth is what the hold of that sum in a sandbox is worth. -/
noncomputable def Tryz.pinned : Pinned := { name := "ytjbeaheenfcgdaagreatdoor", sum := "0f3cf28e2e133a0d62a03693284993f0baf8a0e633872b16e3977aec7210b5fb", checked := Tryz.checked }
namespace Rows
def none {H : Type} : Left H := { results := [], args := [] }

/- WHAT THE LISTED PACKAGE-LEVEL VARIABLES READ AS WHEN THE CALL BEGINS. Each datum BY PROGRAM (the guide's laid-datum.mjs) off the statement by which the dump's own 'gosem.cut.vars' lays the variable. In a bare row this is a premise. The card (YtjbeaheenfcgdaaGreatDoorCards.lean) ties it to the program's text. -/
def laid_unicode_utf8_acceptRanges {H : Type} : DataW H := .agg [.agg [.lit (.int .u8 128), .lit (.int .u8 191)], .agg [.lit (.int .u8 160), .lit (.int .u8 191)], .agg [.lit (.int .u8 128), .lit (.int .u8 159)], .agg [.lit (.int .u8 144), .lit (.int .u8 191)], .agg [.lit (.int .u8 128), .lit (.int .u8 143)], .agg [.lit (.int .u8 0), .lit (.int .u8 0)], .agg [.lit (.int .u8 0), .lit (.int .u8 0)], .agg [.lit (.int .u8 0), .lit (.int .u8 0)], .agg [.lit (.int .u8 0), .lit (.int .u8 0)], .agg [.lit (.int .u8 0), .lit (.int .u8 0)], .agg [.lit (.int .u8 0), .lit (.int .u8 0)], .agg [.lit (.int .u8 0), .lit (.int .u8 0)], .agg [.lit (.int .u8 0), .lit (.int .u8 0)], .agg [.lit (.int .u8 0), .lit (.int .u8 0)], .agg [.lit (.int .u8 0), .lit (.int .u8 0)], .agg [.lit (.int .u8 0), .lit (.int .u8 0)]]
def laid_errors_errorType {H : Type} : DataW H := .iface "internal/reflectlite.rtype" (.agg [.ptr (.lit (.string [101, 114, 114, 111, 114]))])
def laid_virama_prop_errFile {H : Type} : DataW H := .iface "*errors.errorString" (.ptr (.agg [.lit (.string [110, 111, 32, 112, 114, 111, 112, 101, 114, 116, 121])]))
/-- One of Go's own tables, pinned by name: the form's constant. -/
def laid_unicode_utf8_first : DataW Unit := Go.Pinned.utf8First
def laid_virama_scalar_errScalar {H : Type} : DataW H := .iface "*errors.errorString" (.ptr (.agg [.lit (.string [110, 111, 32, 115, 99, 97, 108, 97, 114])]))
def laid_virama_scalar_errUtf {H : Type} : DataW H := .iface "*errors.errorString" (.ptr (.agg [.lit (.string [110, 111, 116, 32, 119, 101, 108, 108, 45, 102, 111, 114, 109, 101, 100])]))
def laid_virama_trie_errTrie {H : Type} : DataW H := .iface "*errors.errorString" (.ptr (.agg [.lit (.string [110, 111, 32, 116, 114, 105, 101])]))
def laid_virama_trie_errRange {H : Type} : DataW H := .iface "*errors.errorString" (.ptr (.agg [.lit (.string [110, 111, 32, 109, 97, 112])]))
def laid_virama_width_errWidth {H : Type} : DataW H := .iface "*errors.errorString" (.ptr (.agg [.lit (.string [110, 111, 32, 119, 105, 100, 116, 104, 115])]))
def laid_virama_width_errScalar {H : Type} : DataW H := .iface "*errors.errorString" (.ptr (.agg [.lit (.string [110, 111, 32, 115, 99, 97, 108, 97, 114])]))
def laid_virama_width_errUtf {H : Type} : DataW H := .iface "*errors.errorString" (.ptr (.agg [.lit (.string [110, 111, 116, 32, 119, 101, 108, 108, 45, 102, 111, 114, 109, 101, 100])]))

/-- 'viramalaw05.PropReads': WHATEVER THE INPUT: true; the input reads as it did. -/
def propReadsSpec : ChangeSpec := { name := "propReads", fn := fun _ => fun
  | [d1, d2, d3, d4, d5, d6] => { results := [.lit (.bool true)], args := [d1, d2, d3, d4, d5, d6] }
  | _ => none }
def propReadsRow : OpenClaim := { program := "ytjbeaheenfcgdaagreatdoor", sum := "0f3cf28e2e133a0d62a03693284993f0baf8a0e633872b16e3977aec7210b5fb", func := "virama/viramalaw05.PropReads", spec := "propReads", inPlace := ["internal/bytealg.CountString", "internal/bytealg.IndexByteString", "internal/bytealg.IndexString", "internal/reflectlite.ValueOf", "(internal/reflectlite.Value).Type", "(internal/reflectlite.Value).IsNil", "internal/reflectlite.TypeOf", "(internal/reflectlite.Value).Elem", "(internal/reflectlite.Value).Set", "internal/abi.NoEscape"], unfollowed := true, recurses := true, named := ["virama/prop.errFile", "unicode/utf8.first", "unicode/utf8.acceptRanges", "internal/bytealg.MaxLen", "errors.errorType"], plainKeys := false, apart := false, laid := [("unicode/utf8.acceptRanges", laid_unicode_utf8_acceptRanges), ("errors.errorType", laid_errors_errorType), ("virama/prop.errFile", laid_virama_prop_errFile), ("unicode/utf8.first", laid_unicode_utf8_first)] }
def PropReadsSaid : Prop := propReadsRow.holds Tryz.pinned (OpenSpec.ofChange propReadsSpec)

/-- ITS FALSE NEIGHBOUR: 'it returns false'. Refute it at one input. -/
def propReadsWrong : ChangeSpec := { name := "propReads", fn := fun _ => fun
  | [d1, d2, d3, d4, d5, d6] => { results := [.lit (.bool false)], args := [d1, d2, d3, d4, d5, d6] }
  | _ => none }
def PropReadsWrongFalsely : Prop := propReadsRow.holds Tryz.pinned (OpenSpec.ofChange propReadsWrong)

/-- 'viramalaw15.WidthMakes': WHATEVER THE INPUT: true; the input reads as it did. -/
def widthMakesSpec : ChangeSpec := { name := "widthMakes", fn := fun _ => fun
  | [d1, d2, d3] => { results := [.lit (.bool true)], args := [d1, d2, d3] }
  | _ => none }
def widthMakesRow : OpenClaim := { program := "ytjbeaheenfcgdaagreatdoor", sum := "0f3cf28e2e133a0d62a03693284993f0baf8a0e633872b16e3977aec7210b5fb", func := "virama/viramalaw15.WidthMakes", spec := "widthMakes", inPlace := ["internal/bytealg.CountString", "internal/bytealg.IndexByteString", "internal/bytealg.IndexString", "internal/reflectlite.ValueOf", "(internal/reflectlite.Value).Type", "(internal/reflectlite.Value).IsNil", "internal/reflectlite.TypeOf", "(internal/reflectlite.Value).Elem", "(internal/reflectlite.Value).Set"], unfollowed := true, recurses := true, named := ["virama/prop.errFile", "unicode/utf8.first", "unicode/utf8.acceptRanges", "internal/bytealg.MaxLen", "errors.errorType", "virama/trie.errRange", "virama/trie.errTrie", "virama/width.errWidth", "virama/width.errUtf", "virama/scalar.errUtf", "virama/scalar.errScalar", "virama/width.errScalar"], plainKeys := false, apart := false, laid := [("unicode/utf8.acceptRanges", laid_unicode_utf8_acceptRanges), ("errors.errorType", laid_errors_errorType), ("virama/scalar.errScalar", laid_virama_scalar_errScalar), ("virama/scalar.errUtf", laid_virama_scalar_errUtf), ("virama/prop.errFile", laid_virama_prop_errFile), ("virama/trie.errTrie", laid_virama_trie_errTrie), ("virama/trie.errRange", laid_virama_trie_errRange), ("virama/width.errWidth", laid_virama_width_errWidth), ("virama/width.errScalar", laid_virama_width_errScalar), ("virama/width.errUtf", laid_virama_width_errUtf), ("unicode/utf8.first", laid_unicode_utf8_first)] }
def WidthMakesSaid : Prop := widthMakesRow.holds Tryz.pinned (OpenSpec.ofChange widthMakesSpec)

/-- ITS FALSE NEIGHBOUR: 'it returns false'. Refute it at one input. -/
def widthMakesWrong : ChangeSpec := { name := "widthMakes", fn := fun _ => fun
  | [d1, d2, d3] => { results := [.lit (.bool false)], args := [d1, d2, d3] }
  | _ => none }
def WidthMakesWrongFalsely : Prop := widthMakesRow.holds Tryz.pinned (OpenSpec.ofChange widthMakesWrong)

/-- 'viramalaw15.WidthTells': WHATEVER THE INPUT: true; the input reads as it did. -/
def widthTellsSpec : ChangeSpec := { name := "widthTells", fn := fun _ => fun
  | [d1, d2, d3] => { results := [.lit (.bool true)], args := [d1, d2, d3] }
  | _ => none }
def widthTellsRow : OpenClaim := { program := "ytjbeaheenfcgdaagreatdoor", sum := "0f3cf28e2e133a0d62a03693284993f0baf8a0e633872b16e3977aec7210b5fb", func := "virama/viramalaw15.WidthTells", spec := "widthTells", inPlace := ["internal/bytealg.CountString", "internal/bytealg.IndexByteString", "internal/bytealg.IndexString", "internal/reflectlite.ValueOf", "(internal/reflectlite.Value).Type", "(internal/reflectlite.Value).IsNil", "internal/reflectlite.TypeOf", "(internal/reflectlite.Value).Elem", "(internal/reflectlite.Value).Set"], unfollowed := true, recurses := true, named := ["virama/prop.errFile", "unicode/utf8.first", "unicode/utf8.acceptRanges", "internal/bytealg.MaxLen", "errors.errorType", "virama/trie.errRange", "virama/trie.errTrie", "virama/width.errWidth", "virama/width.errUtf", "virama/scalar.errUtf", "virama/scalar.errScalar", "virama/width.errScalar"], plainKeys := false, apart := false, laid := [("unicode/utf8.acceptRanges", laid_unicode_utf8_acceptRanges), ("errors.errorType", laid_errors_errorType), ("virama/scalar.errScalar", laid_virama_scalar_errScalar), ("virama/scalar.errUtf", laid_virama_scalar_errUtf), ("virama/prop.errFile", laid_virama_prop_errFile), ("virama/trie.errTrie", laid_virama_trie_errTrie), ("virama/trie.errRange", laid_virama_trie_errRange), ("virama/width.errWidth", laid_virama_width_errWidth), ("virama/width.errScalar", laid_virama_width_errScalar), ("virama/width.errUtf", laid_virama_width_errUtf), ("unicode/utf8.first", laid_unicode_utf8_first)] }
def WidthTellsSaid : Prop := widthTellsRow.holds Tryz.pinned (OpenSpec.ofChange widthTellsSpec)

/-- ITS FALSE NEIGHBOUR: 'it returns false'. Refute it at one input. -/
def widthTellsWrong : ChangeSpec := { name := "widthTells", fn := fun _ => fun
  | [d1, d2, d3] => { results := [.lit (.bool false)], args := [d1, d2, d3] }
  | _ => none }
def WidthTellsWrongFalsely : Prop := widthTellsRow.holds Tryz.pinned (OpenSpec.ofChange widthTellsWrong)

/-- 'viramalaw15.WidthWide': WHATEVER THE INPUT: true; the input reads as it did. -/
def widthWideSpec : ChangeSpec := { name := "widthWide", fn := fun _ => fun
  | [d1, d2, d3] => { results := [.lit (.bool true)], args := [d1, d2, d3] }
  | _ => none }
def widthWideRow : OpenClaim := { program := "ytjbeaheenfcgdaagreatdoor", sum := "0f3cf28e2e133a0d62a03693284993f0baf8a0e633872b16e3977aec7210b5fb", func := "virama/viramalaw15.WidthWide", spec := "widthWide", inPlace := ["internal/bytealg.CountString", "internal/bytealg.IndexByteString", "internal/bytealg.IndexString", "internal/reflectlite.ValueOf", "(internal/reflectlite.Value).Type", "(internal/reflectlite.Value).IsNil", "internal/reflectlite.TypeOf", "(internal/reflectlite.Value).Elem", "(internal/reflectlite.Value).Set"], unfollowed := true, recurses := true, named := ["virama/prop.errFile", "unicode/utf8.first", "unicode/utf8.acceptRanges", "internal/bytealg.MaxLen", "errors.errorType", "virama/trie.errRange", "virama/trie.errTrie", "virama/width.errWidth", "virama/width.errUtf", "virama/scalar.errUtf", "virama/scalar.errScalar", "virama/width.errScalar"], plainKeys := false, apart := false, laid := [("unicode/utf8.acceptRanges", laid_unicode_utf8_acceptRanges), ("errors.errorType", laid_errors_errorType), ("virama/scalar.errScalar", laid_virama_scalar_errScalar), ("virama/scalar.errUtf", laid_virama_scalar_errUtf), ("virama/prop.errFile", laid_virama_prop_errFile), ("virama/trie.errTrie", laid_virama_trie_errTrie), ("virama/trie.errRange", laid_virama_trie_errRange), ("virama/width.errWidth", laid_virama_width_errWidth), ("virama/width.errScalar", laid_virama_width_errScalar), ("virama/width.errUtf", laid_virama_width_errUtf), ("unicode/utf8.first", laid_unicode_utf8_first)] }
def WidthWideSaid : Prop := widthWideRow.holds Tryz.pinned (OpenSpec.ofChange widthWideSpec)

/-- ITS FALSE NEIGHBOUR: 'it returns false'. Refute it at one input. -/
def widthWideWrong : ChangeSpec := { name := "widthWide", fn := fun _ => fun
  | [d1, d2, d3] => { results := [.lit (.bool false)], args := [d1, d2, d3] }
  | _ => none }
def WidthWideWrongFalsely : Prop := widthWideRow.holds Tryz.pinned (OpenSpec.ofChange widthWideWrong)

/-- 'viramalaw15.WidthLonger': WHATEVER THE INPUT: true; the input reads as it did. -/
def widthLongerSpec : ChangeSpec := { name := "widthLonger", fn := fun _ => fun
  | [d1, d2, d3] => { results := [.lit (.bool true)], args := [d1, d2, d3] }
  | _ => none }
def widthLongerRow : OpenClaim := { program := "ytjbeaheenfcgdaagreatdoor", sum := "0f3cf28e2e133a0d62a03693284993f0baf8a0e633872b16e3977aec7210b5fb", func := "virama/viramalaw15.WidthLonger", spec := "widthLonger", inPlace := ["internal/bytealg.CountString", "internal/bytealg.IndexByteString", "internal/bytealg.IndexString", "internal/reflectlite.ValueOf", "(internal/reflectlite.Value).Type", "(internal/reflectlite.Value).IsNil", "internal/reflectlite.TypeOf", "(internal/reflectlite.Value).Elem", "(internal/reflectlite.Value).Set"], unfollowed := true, recurses := true, named := ["virama/prop.errFile", "unicode/utf8.first", "unicode/utf8.acceptRanges", "internal/bytealg.MaxLen", "errors.errorType", "virama/trie.errRange", "virama/trie.errTrie", "virama/width.errWidth", "virama/width.errUtf", "virama/scalar.errUtf", "virama/scalar.errScalar", "virama/width.errScalar"], plainKeys := false, apart := false, laid := [("unicode/utf8.acceptRanges", laid_unicode_utf8_acceptRanges), ("errors.errorType", laid_errors_errorType), ("virama/scalar.errScalar", laid_virama_scalar_errScalar), ("virama/scalar.errUtf", laid_virama_scalar_errUtf), ("virama/prop.errFile", laid_virama_prop_errFile), ("virama/trie.errTrie", laid_virama_trie_errTrie), ("virama/trie.errRange", laid_virama_trie_errRange), ("virama/width.errWidth", laid_virama_width_errWidth), ("virama/width.errScalar", laid_virama_width_errScalar), ("virama/width.errUtf", laid_virama_width_errUtf), ("unicode/utf8.first", laid_unicode_utf8_first)] }
def WidthLongerSaid : Prop := widthLongerRow.holds Tryz.pinned (OpenSpec.ofChange widthLongerSpec)

/-- ITS FALSE NEIGHBOUR: 'it returns false'. Refute it at one input. -/
def widthLongerWrong : ChangeSpec := { name := "widthLonger", fn := fun _ => fun
  | [d1, d2, d3] => { results := [.lit (.bool false)], args := [d1, d2, d3] }
  | _ => none }
def WidthLongerWrongFalsely : Prop := widthLongerRow.holds Tryz.pinned (OpenSpec.ofChange widthLongerWrong)

/-- 'viramalaw15.WidthNone': WHATEVER THE INPUT: true; the input reads as it did. -/
def widthNoneSpec : ChangeSpec := { name := "widthNone", fn := fun _ => fun
  | [d1, d2] => { results := [.lit (.bool true)], args := [d1, d2] }
  | _ => none }
def widthNoneRow : OpenClaim := { program := "ytjbeaheenfcgdaagreatdoor", sum := "0f3cf28e2e133a0d62a03693284993f0baf8a0e633872b16e3977aec7210b5fb", func := "virama/viramalaw15.WidthNone", spec := "widthNone", inPlace := ["internal/bytealg.CountString", "internal/bytealg.IndexByteString", "internal/bytealg.IndexString", "internal/reflectlite.ValueOf", "(internal/reflectlite.Value).Type", "(internal/reflectlite.Value).IsNil", "internal/reflectlite.TypeOf", "(internal/reflectlite.Value).Elem", "(internal/reflectlite.Value).Set"], unfollowed := true, recurses := true, named := ["virama/prop.errFile", "unicode/utf8.first", "unicode/utf8.acceptRanges", "internal/bytealg.MaxLen", "errors.errorType", "virama/trie.errRange", "virama/trie.errTrie", "virama/width.errWidth", "virama/width.errUtf", "virama/scalar.errUtf", "virama/scalar.errScalar", "virama/width.errScalar"], plainKeys := false, apart := false, laid := [("unicode/utf8.acceptRanges", laid_unicode_utf8_acceptRanges), ("errors.errorType", laid_errors_errorType), ("virama/scalar.errScalar", laid_virama_scalar_errScalar), ("virama/scalar.errUtf", laid_virama_scalar_errUtf), ("virama/prop.errFile", laid_virama_prop_errFile), ("virama/trie.errTrie", laid_virama_trie_errTrie), ("virama/trie.errRange", laid_virama_trie_errRange), ("virama/width.errWidth", laid_virama_width_errWidth), ("virama/width.errScalar", laid_virama_width_errScalar), ("virama/width.errUtf", laid_virama_width_errUtf), ("unicode/utf8.first", laid_unicode_utf8_first)] }
def WidthNoneSaid : Prop := widthNoneRow.holds Tryz.pinned (OpenSpec.ofChange widthNoneSpec)

/-- ITS FALSE NEIGHBOUR: 'it returns false'. Refute it at one input. -/
def widthNoneWrong : ChangeSpec := { name := "widthNone", fn := fun _ => fun
  | [d1, d2] => { results := [.lit (.bool false)], args := [d1, d2] }
  | _ => none }
def WidthNoneWrongFalsely : Prop := widthNoneRow.holds Tryz.pinned (OpenSpec.ofChange widthNoneWrong)

/-- 'viramalaw15.WidthCounts': WHATEVER THE INPUT: true; the input reads as it did. -/
def widthCountsSpec : ChangeSpec := { name := "widthCounts", fn := fun _ => fun
  | [d1, d2, d3] => { results := [.lit (.bool true)], args := [d1, d2, d3] }
  | _ => none }
def widthCountsRow : OpenClaim := { program := "ytjbeaheenfcgdaagreatdoor", sum := "0f3cf28e2e133a0d62a03693284993f0baf8a0e633872b16e3977aec7210b5fb", func := "virama/viramalaw15.WidthCounts", spec := "widthCounts", inPlace := ["internal/bytealg.CountString", "internal/bytealg.IndexByteString", "internal/bytealg.IndexString", "internal/reflectlite.ValueOf", "(internal/reflectlite.Value).Type", "(internal/reflectlite.Value).IsNil", "internal/reflectlite.TypeOf", "(internal/reflectlite.Value).Elem", "(internal/reflectlite.Value).Set"], unfollowed := true, recurses := true, named := ["virama/prop.errFile", "unicode/utf8.first", "unicode/utf8.acceptRanges", "internal/bytealg.MaxLen", "errors.errorType", "virama/trie.errRange", "virama/trie.errTrie", "virama/width.errWidth", "virama/width.errUtf", "virama/scalar.errUtf", "virama/scalar.errScalar", "virama/width.errScalar"], plainKeys := false, apart := false, laid := [("unicode/utf8.acceptRanges", laid_unicode_utf8_acceptRanges), ("errors.errorType", laid_errors_errorType), ("virama/scalar.errScalar", laid_virama_scalar_errScalar), ("virama/scalar.errUtf", laid_virama_scalar_errUtf), ("virama/prop.errFile", laid_virama_prop_errFile), ("virama/trie.errTrie", laid_virama_trie_errTrie), ("virama/trie.errRange", laid_virama_trie_errRange), ("virama/width.errWidth", laid_virama_width_errWidth), ("virama/width.errScalar", laid_virama_width_errScalar), ("virama/width.errUtf", laid_virama_width_errUtf), ("unicode/utf8.first", laid_unicode_utf8_first)] }
def WidthCountsSaid : Prop := widthCountsRow.holds Tryz.pinned (OpenSpec.ofChange widthCountsSpec)

/-- ITS FALSE NEIGHBOUR: 'it returns false'. Refute it at one input. -/
def widthCountsWrong : ChangeSpec := { name := "widthCounts", fn := fun _ => fun
  | [d1, d2, d3] => { results := [.lit (.bool false)], args := [d1, d2, d3] }
  | _ => none }
def WidthCountsWrongFalsely : Prop := widthCountsRow.holds Tryz.pinned (OpenSpec.ofChange widthCountsWrong)

/-- 'viramalaw15.WidthSums': WHATEVER THE INPUT: true; the input reads as it did. -/
def widthSumsSpec : ChangeSpec := { name := "widthSums", fn := fun _ => fun
  | [d1, d2, d3] => { results := [.lit (.bool true)], args := [d1, d2, d3] }
  | _ => none }
def widthSumsRow : OpenClaim := { program := "ytjbeaheenfcgdaagreatdoor", sum := "0f3cf28e2e133a0d62a03693284993f0baf8a0e633872b16e3977aec7210b5fb", func := "virama/viramalaw15.WidthSums", spec := "widthSums", inPlace := ["internal/bytealg.CountString", "internal/bytealg.IndexByteString", "internal/bytealg.IndexString", "internal/reflectlite.ValueOf", "(internal/reflectlite.Value).Type", "(internal/reflectlite.Value).IsNil", "internal/reflectlite.TypeOf", "(internal/reflectlite.Value).Elem", "(internal/reflectlite.Value).Set"], unfollowed := true, recurses := true, named := ["virama/prop.errFile", "unicode/utf8.first", "unicode/utf8.acceptRanges", "internal/bytealg.MaxLen", "errors.errorType", "virama/trie.errRange", "virama/trie.errTrie", "virama/width.errWidth", "virama/width.errUtf", "virama/scalar.errUtf", "virama/scalar.errScalar", "virama/width.errScalar"], plainKeys := false, apart := false, laid := [("unicode/utf8.acceptRanges", laid_unicode_utf8_acceptRanges), ("errors.errorType", laid_errors_errorType), ("virama/scalar.errScalar", laid_virama_scalar_errScalar), ("virama/scalar.errUtf", laid_virama_scalar_errUtf), ("virama/prop.errFile", laid_virama_prop_errFile), ("virama/trie.errTrie", laid_virama_trie_errTrie), ("virama/trie.errRange", laid_virama_trie_errRange), ("virama/width.errWidth", laid_virama_width_errWidth), ("virama/width.errScalar", laid_virama_width_errScalar), ("virama/width.errUtf", laid_virama_width_errUtf), ("unicode/utf8.first", laid_unicode_utf8_first)] }
def WidthSumsSaid : Prop := widthSumsRow.holds Tryz.pinned (OpenSpec.ofChange widthSumsSpec)

/-- ITS FALSE NEIGHBOUR: 'it returns false'. Refute it at one input. -/
def widthSumsWrong : ChangeSpec := { name := "widthSums", fn := fun _ => fun
  | [d1, d2, d3] => { results := [.lit (.bool false)], args := [d1, d2, d3] }
  | _ => none }
def WidthSumsWrongFalsely : Prop := widthSumsRow.holds Tryz.pinned (OpenSpec.ofChange widthSumsWrong)

/-- 'viramalaw15.WidthFits': WHATEVER THE INPUT: true; the input reads as it did. -/
def widthFitsSpec : ChangeSpec := { name := "widthFits", fn := fun _ => fun
  | [d1, d2, d3] => { results := [.lit (.bool true)], args := [d1, d2, d3] }
  | _ => none }
def widthFitsRow : OpenClaim := { program := "ytjbeaheenfcgdaagreatdoor", sum := "0f3cf28e2e133a0d62a03693284993f0baf8a0e633872b16e3977aec7210b5fb", func := "virama/viramalaw15.WidthFits", spec := "widthFits", inPlace := ["internal/bytealg.CountString", "internal/bytealg.IndexByteString", "internal/bytealg.IndexString", "internal/reflectlite.ValueOf", "(internal/reflectlite.Value).Type", "(internal/reflectlite.Value).IsNil", "internal/reflectlite.TypeOf", "(internal/reflectlite.Value).Elem", "(internal/reflectlite.Value).Set"], unfollowed := true, recurses := true, named := ["virama/prop.errFile", "unicode/utf8.first", "unicode/utf8.acceptRanges", "internal/bytealg.MaxLen", "errors.errorType", "virama/trie.errRange", "virama/trie.errTrie", "virama/width.errWidth", "virama/width.errUtf", "virama/scalar.errUtf", "virama/scalar.errScalar", "virama/width.errScalar"], plainKeys := false, apart := false, laid := [("unicode/utf8.acceptRanges", laid_unicode_utf8_acceptRanges), ("errors.errorType", laid_errors_errorType), ("virama/scalar.errScalar", laid_virama_scalar_errScalar), ("virama/scalar.errUtf", laid_virama_scalar_errUtf), ("virama/prop.errFile", laid_virama_prop_errFile), ("virama/trie.errTrie", laid_virama_trie_errTrie), ("virama/trie.errRange", laid_virama_trie_errRange), ("virama/width.errWidth", laid_virama_width_errWidth), ("virama/width.errScalar", laid_virama_width_errScalar), ("virama/width.errUtf", laid_virama_width_errUtf), ("unicode/utf8.first", laid_unicode_utf8_first)] }
def WidthFitsSaid : Prop := widthFitsRow.holds Tryz.pinned (OpenSpec.ofChange widthFitsSpec)

/-- ITS FALSE NEIGHBOUR: 'it returns false'. Refute it at one input. -/
def widthFitsWrong : ChangeSpec := { name := "widthFits", fn := fun _ => fun
  | [d1, d2, d3] => { results := [.lit (.bool false)], args := [d1, d2, d3] }
  | _ => none }
def WidthFitsWrongFalsely : Prop := widthFitsRow.holds Tryz.pinned (OpenSpec.ofChange widthFitsWrong)

/- THE SECOND FORM. 'bulk': how many values and letters a reading holds, each counted each time it is reached (what is shared counts as often as it is met; a slice's spare places count too). A statement '..UptoSaid' is the law's where the arguments, and the package variables that the reading takes, are together of bulk at most 1048576: NARROWER than '..Said'. Prove '..Said' where nothing that the law and all that it calls make is longer than what came in: it says more and counts as full. Else prove '..UptoSaid'. A law counts once. -/
mutual
def uptoBulk {H : Type} : DataW H → Nat
  | .lit (.string bytes) => bytes.length + 1
  | .lit _ => 1
  | .nil => 1
  | .ptr d => uptoBulk d + 1
  | .slice elems spare => uptoBulkAll elems + uptoBulkAll spare + 1
  | .agg parts => uptoBulkAll parts + 1
  | .iface _ d => uptoBulk d + 1
  | .map entries => uptoBulkEntries entries + 1
  | .held _ => 1
def uptoBulkAll {H : Type} : List (DataW H) → Nat
  | [] => 0
  | d :: r => uptoBulk d + uptoBulkAll r
def uptoBulkEntries {H : Type} : List (Lit × DataW H) → Nat
  | [] => 0
  | x :: r => uptoBulkEntry x + uptoBulkEntries r
def uptoBulkEntry {H : Type} : Lit × DataW H → Nat
  | (.string bytes, d) => bytes.length + uptoBulk d + 1
  | (_, d) => uptoBulk d + 1
 end
def uptoSmall : (H : Type) → List (DataW H) → Bool := fun _ ds => decide (uptoBulkAll ds ≤ 1048576)
def OpenSpec.upto (s : _root_.Go.ChangeSpec) : _root_.Go.OpenSpec := { _root_.Go.OpenSpec.ofChange s with cond := some uptoSmall }

/-- 'viramalaw05.PropReads', WHERE WHAT IT READS IS OF BULK AT MOST 1048576: true; the input reads as it did. -/
def propReadsUptoRow : OpenClaim := { program := "ytjbeaheenfcgdaagreatdoor", sum := "0f3cf28e2e133a0d62a03693284993f0baf8a0e633872b16e3977aec7210b5fb", func := "virama/viramalaw05.PropReads", spec := "propReads", inPlace := ["internal/bytealg.CountString", "internal/bytealg.IndexByteString", "internal/bytealg.IndexString", "internal/reflectlite.ValueOf", "(internal/reflectlite.Value).Type", "(internal/reflectlite.Value).IsNil", "internal/reflectlite.TypeOf", "(internal/reflectlite.Value).Elem", "(internal/reflectlite.Value).Set", "internal/abi.NoEscape"], unfollowed := true, recurses := true, named := ["virama/prop.errFile", "unicode/utf8.first", "unicode/utf8.acceptRanges", "internal/bytealg.MaxLen", "errors.errorType"], plainKeys := false, apart := false, laid := [("unicode/utf8.acceptRanges", laid_unicode_utf8_acceptRanges), ("errors.errorType", laid_errors_errorType), ("virama/prop.errFile", laid_virama_prop_errFile), ("unicode/utf8.first", laid_unicode_utf8_first)], narrowed := true }
def PropReadsUptoSaid : Prop := propReadsUptoRow.holds Tryz.pinned (OpenSpec.upto propReadsSpec)

/-- 'viramalaw15.WidthMakes', WHERE WHAT IT READS IS OF BULK AT MOST 1048576: true; the input reads as it did. -/
def widthMakesUptoRow : OpenClaim := { program := "ytjbeaheenfcgdaagreatdoor", sum := "0f3cf28e2e133a0d62a03693284993f0baf8a0e633872b16e3977aec7210b5fb", func := "virama/viramalaw15.WidthMakes", spec := "widthMakes", inPlace := ["internal/bytealg.CountString", "internal/bytealg.IndexByteString", "internal/bytealg.IndexString", "internal/reflectlite.ValueOf", "(internal/reflectlite.Value).Type", "(internal/reflectlite.Value).IsNil", "internal/reflectlite.TypeOf", "(internal/reflectlite.Value).Elem", "(internal/reflectlite.Value).Set"], unfollowed := true, recurses := true, named := ["virama/prop.errFile", "unicode/utf8.first", "unicode/utf8.acceptRanges", "internal/bytealg.MaxLen", "errors.errorType", "virama/trie.errRange", "virama/trie.errTrie", "virama/width.errWidth", "virama/width.errUtf", "virama/scalar.errUtf", "virama/scalar.errScalar", "virama/width.errScalar"], plainKeys := false, apart := false, laid := [("unicode/utf8.acceptRanges", laid_unicode_utf8_acceptRanges), ("errors.errorType", laid_errors_errorType), ("virama/scalar.errScalar", laid_virama_scalar_errScalar), ("virama/scalar.errUtf", laid_virama_scalar_errUtf), ("virama/prop.errFile", laid_virama_prop_errFile), ("virama/trie.errTrie", laid_virama_trie_errTrie), ("virama/trie.errRange", laid_virama_trie_errRange), ("virama/width.errWidth", laid_virama_width_errWidth), ("virama/width.errScalar", laid_virama_width_errScalar), ("virama/width.errUtf", laid_virama_width_errUtf), ("unicode/utf8.first", laid_unicode_utf8_first)], narrowed := true }
def WidthMakesUptoSaid : Prop := widthMakesUptoRow.holds Tryz.pinned (OpenSpec.upto widthMakesSpec)

/-- 'viramalaw15.WidthTells', WHERE WHAT IT READS IS OF BULK AT MOST 1048576: true; the input reads as it did. -/
def widthTellsUptoRow : OpenClaim := { program := "ytjbeaheenfcgdaagreatdoor", sum := "0f3cf28e2e133a0d62a03693284993f0baf8a0e633872b16e3977aec7210b5fb", func := "virama/viramalaw15.WidthTells", spec := "widthTells", inPlace := ["internal/bytealg.CountString", "internal/bytealg.IndexByteString", "internal/bytealg.IndexString", "internal/reflectlite.ValueOf", "(internal/reflectlite.Value).Type", "(internal/reflectlite.Value).IsNil", "internal/reflectlite.TypeOf", "(internal/reflectlite.Value).Elem", "(internal/reflectlite.Value).Set"], unfollowed := true, recurses := true, named := ["virama/prop.errFile", "unicode/utf8.first", "unicode/utf8.acceptRanges", "internal/bytealg.MaxLen", "errors.errorType", "virama/trie.errRange", "virama/trie.errTrie", "virama/width.errWidth", "virama/width.errUtf", "virama/scalar.errUtf", "virama/scalar.errScalar", "virama/width.errScalar"], plainKeys := false, apart := false, laid := [("unicode/utf8.acceptRanges", laid_unicode_utf8_acceptRanges), ("errors.errorType", laid_errors_errorType), ("virama/scalar.errScalar", laid_virama_scalar_errScalar), ("virama/scalar.errUtf", laid_virama_scalar_errUtf), ("virama/prop.errFile", laid_virama_prop_errFile), ("virama/trie.errTrie", laid_virama_trie_errTrie), ("virama/trie.errRange", laid_virama_trie_errRange), ("virama/width.errWidth", laid_virama_width_errWidth), ("virama/width.errScalar", laid_virama_width_errScalar), ("virama/width.errUtf", laid_virama_width_errUtf), ("unicode/utf8.first", laid_unicode_utf8_first)], narrowed := true }
def WidthTellsUptoSaid : Prop := widthTellsUptoRow.holds Tryz.pinned (OpenSpec.upto widthTellsSpec)

/-- 'viramalaw15.WidthWide', WHERE WHAT IT READS IS OF BULK AT MOST 1048576: true; the input reads as it did. -/
def widthWideUptoRow : OpenClaim := { program := "ytjbeaheenfcgdaagreatdoor", sum := "0f3cf28e2e133a0d62a03693284993f0baf8a0e633872b16e3977aec7210b5fb", func := "virama/viramalaw15.WidthWide", spec := "widthWide", inPlace := ["internal/bytealg.CountString", "internal/bytealg.IndexByteString", "internal/bytealg.IndexString", "internal/reflectlite.ValueOf", "(internal/reflectlite.Value).Type", "(internal/reflectlite.Value).IsNil", "internal/reflectlite.TypeOf", "(internal/reflectlite.Value).Elem", "(internal/reflectlite.Value).Set"], unfollowed := true, recurses := true, named := ["virama/prop.errFile", "unicode/utf8.first", "unicode/utf8.acceptRanges", "internal/bytealg.MaxLen", "errors.errorType", "virama/trie.errRange", "virama/trie.errTrie", "virama/width.errWidth", "virama/width.errUtf", "virama/scalar.errUtf", "virama/scalar.errScalar", "virama/width.errScalar"], plainKeys := false, apart := false, laid := [("unicode/utf8.acceptRanges", laid_unicode_utf8_acceptRanges), ("errors.errorType", laid_errors_errorType), ("virama/scalar.errScalar", laid_virama_scalar_errScalar), ("virama/scalar.errUtf", laid_virama_scalar_errUtf), ("virama/prop.errFile", laid_virama_prop_errFile), ("virama/trie.errTrie", laid_virama_trie_errTrie), ("virama/trie.errRange", laid_virama_trie_errRange), ("virama/width.errWidth", laid_virama_width_errWidth), ("virama/width.errScalar", laid_virama_width_errScalar), ("virama/width.errUtf", laid_virama_width_errUtf), ("unicode/utf8.first", laid_unicode_utf8_first)], narrowed := true }
def WidthWideUptoSaid : Prop := widthWideUptoRow.holds Tryz.pinned (OpenSpec.upto widthWideSpec)

/-- 'viramalaw15.WidthLonger', WHERE WHAT IT READS IS OF BULK AT MOST 1048576: true; the input reads as it did. -/
def widthLongerUptoRow : OpenClaim := { program := "ytjbeaheenfcgdaagreatdoor", sum := "0f3cf28e2e133a0d62a03693284993f0baf8a0e633872b16e3977aec7210b5fb", func := "virama/viramalaw15.WidthLonger", spec := "widthLonger", inPlace := ["internal/bytealg.CountString", "internal/bytealg.IndexByteString", "internal/bytealg.IndexString", "internal/reflectlite.ValueOf", "(internal/reflectlite.Value).Type", "(internal/reflectlite.Value).IsNil", "internal/reflectlite.TypeOf", "(internal/reflectlite.Value).Elem", "(internal/reflectlite.Value).Set"], unfollowed := true, recurses := true, named := ["virama/prop.errFile", "unicode/utf8.first", "unicode/utf8.acceptRanges", "internal/bytealg.MaxLen", "errors.errorType", "virama/trie.errRange", "virama/trie.errTrie", "virama/width.errWidth", "virama/width.errUtf", "virama/scalar.errUtf", "virama/scalar.errScalar", "virama/width.errScalar"], plainKeys := false, apart := false, laid := [("unicode/utf8.acceptRanges", laid_unicode_utf8_acceptRanges), ("errors.errorType", laid_errors_errorType), ("virama/scalar.errScalar", laid_virama_scalar_errScalar), ("virama/scalar.errUtf", laid_virama_scalar_errUtf), ("virama/prop.errFile", laid_virama_prop_errFile), ("virama/trie.errTrie", laid_virama_trie_errTrie), ("virama/trie.errRange", laid_virama_trie_errRange), ("virama/width.errWidth", laid_virama_width_errWidth), ("virama/width.errScalar", laid_virama_width_errScalar), ("virama/width.errUtf", laid_virama_width_errUtf), ("unicode/utf8.first", laid_unicode_utf8_first)], narrowed := true }
def WidthLongerUptoSaid : Prop := widthLongerUptoRow.holds Tryz.pinned (OpenSpec.upto widthLongerSpec)

/-- 'viramalaw15.WidthNone', WHERE WHAT IT READS IS OF BULK AT MOST 1048576: true; the input reads as it did. -/
def widthNoneUptoRow : OpenClaim := { program := "ytjbeaheenfcgdaagreatdoor", sum := "0f3cf28e2e133a0d62a03693284993f0baf8a0e633872b16e3977aec7210b5fb", func := "virama/viramalaw15.WidthNone", spec := "widthNone", inPlace := ["internal/bytealg.CountString", "internal/bytealg.IndexByteString", "internal/bytealg.IndexString", "internal/reflectlite.ValueOf", "(internal/reflectlite.Value).Type", "(internal/reflectlite.Value).IsNil", "internal/reflectlite.TypeOf", "(internal/reflectlite.Value).Elem", "(internal/reflectlite.Value).Set"], unfollowed := true, recurses := true, named := ["virama/prop.errFile", "unicode/utf8.first", "unicode/utf8.acceptRanges", "internal/bytealg.MaxLen", "errors.errorType", "virama/trie.errRange", "virama/trie.errTrie", "virama/width.errWidth", "virama/width.errUtf", "virama/scalar.errUtf", "virama/scalar.errScalar", "virama/width.errScalar"], plainKeys := false, apart := false, laid := [("unicode/utf8.acceptRanges", laid_unicode_utf8_acceptRanges), ("errors.errorType", laid_errors_errorType), ("virama/scalar.errScalar", laid_virama_scalar_errScalar), ("virama/scalar.errUtf", laid_virama_scalar_errUtf), ("virama/prop.errFile", laid_virama_prop_errFile), ("virama/trie.errTrie", laid_virama_trie_errTrie), ("virama/trie.errRange", laid_virama_trie_errRange), ("virama/width.errWidth", laid_virama_width_errWidth), ("virama/width.errScalar", laid_virama_width_errScalar), ("virama/width.errUtf", laid_virama_width_errUtf), ("unicode/utf8.first", laid_unicode_utf8_first)], narrowed := true }
def WidthNoneUptoSaid : Prop := widthNoneUptoRow.holds Tryz.pinned (OpenSpec.upto widthNoneSpec)

/-- 'viramalaw15.WidthCounts', WHERE WHAT IT READS IS OF BULK AT MOST 1048576: true; the input reads as it did. -/
def widthCountsUptoRow : OpenClaim := { program := "ytjbeaheenfcgdaagreatdoor", sum := "0f3cf28e2e133a0d62a03693284993f0baf8a0e633872b16e3977aec7210b5fb", func := "virama/viramalaw15.WidthCounts", spec := "widthCounts", inPlace := ["internal/bytealg.CountString", "internal/bytealg.IndexByteString", "internal/bytealg.IndexString", "internal/reflectlite.ValueOf", "(internal/reflectlite.Value).Type", "(internal/reflectlite.Value).IsNil", "internal/reflectlite.TypeOf", "(internal/reflectlite.Value).Elem", "(internal/reflectlite.Value).Set"], unfollowed := true, recurses := true, named := ["virama/prop.errFile", "unicode/utf8.first", "unicode/utf8.acceptRanges", "internal/bytealg.MaxLen", "errors.errorType", "virama/trie.errRange", "virama/trie.errTrie", "virama/width.errWidth", "virama/width.errUtf", "virama/scalar.errUtf", "virama/scalar.errScalar", "virama/width.errScalar"], plainKeys := false, apart := false, laid := [("unicode/utf8.acceptRanges", laid_unicode_utf8_acceptRanges), ("errors.errorType", laid_errors_errorType), ("virama/scalar.errScalar", laid_virama_scalar_errScalar), ("virama/scalar.errUtf", laid_virama_scalar_errUtf), ("virama/prop.errFile", laid_virama_prop_errFile), ("virama/trie.errTrie", laid_virama_trie_errTrie), ("virama/trie.errRange", laid_virama_trie_errRange), ("virama/width.errWidth", laid_virama_width_errWidth), ("virama/width.errScalar", laid_virama_width_errScalar), ("virama/width.errUtf", laid_virama_width_errUtf), ("unicode/utf8.first", laid_unicode_utf8_first)], narrowed := true }
def WidthCountsUptoSaid : Prop := widthCountsUptoRow.holds Tryz.pinned (OpenSpec.upto widthCountsSpec)

/-- 'viramalaw15.WidthSums', WHERE WHAT IT READS IS OF BULK AT MOST 1048576: true; the input reads as it did. -/
def widthSumsUptoRow : OpenClaim := { program := "ytjbeaheenfcgdaagreatdoor", sum := "0f3cf28e2e133a0d62a03693284993f0baf8a0e633872b16e3977aec7210b5fb", func := "virama/viramalaw15.WidthSums", spec := "widthSums", inPlace := ["internal/bytealg.CountString", "internal/bytealg.IndexByteString", "internal/bytealg.IndexString", "internal/reflectlite.ValueOf", "(internal/reflectlite.Value).Type", "(internal/reflectlite.Value).IsNil", "internal/reflectlite.TypeOf", "(internal/reflectlite.Value).Elem", "(internal/reflectlite.Value).Set"], unfollowed := true, recurses := true, named := ["virama/prop.errFile", "unicode/utf8.first", "unicode/utf8.acceptRanges", "internal/bytealg.MaxLen", "errors.errorType", "virama/trie.errRange", "virama/trie.errTrie", "virama/width.errWidth", "virama/width.errUtf", "virama/scalar.errUtf", "virama/scalar.errScalar", "virama/width.errScalar"], plainKeys := false, apart := false, laid := [("unicode/utf8.acceptRanges", laid_unicode_utf8_acceptRanges), ("errors.errorType", laid_errors_errorType), ("virama/scalar.errScalar", laid_virama_scalar_errScalar), ("virama/scalar.errUtf", laid_virama_scalar_errUtf), ("virama/prop.errFile", laid_virama_prop_errFile), ("virama/trie.errTrie", laid_virama_trie_errTrie), ("virama/trie.errRange", laid_virama_trie_errRange), ("virama/width.errWidth", laid_virama_width_errWidth), ("virama/width.errScalar", laid_virama_width_errScalar), ("virama/width.errUtf", laid_virama_width_errUtf), ("unicode/utf8.first", laid_unicode_utf8_first)], narrowed := true }
def WidthSumsUptoSaid : Prop := widthSumsUptoRow.holds Tryz.pinned (OpenSpec.upto widthSumsSpec)

/-- 'viramalaw15.WidthFits', WHERE WHAT IT READS IS OF BULK AT MOST 1048576: true; the input reads as it did. -/
def widthFitsUptoRow : OpenClaim := { program := "ytjbeaheenfcgdaagreatdoor", sum := "0f3cf28e2e133a0d62a03693284993f0baf8a0e633872b16e3977aec7210b5fb", func := "virama/viramalaw15.WidthFits", spec := "widthFits", inPlace := ["internal/bytealg.CountString", "internal/bytealg.IndexByteString", "internal/bytealg.IndexString", "internal/reflectlite.ValueOf", "(internal/reflectlite.Value).Type", "(internal/reflectlite.Value).IsNil", "internal/reflectlite.TypeOf", "(internal/reflectlite.Value).Elem", "(internal/reflectlite.Value).Set"], unfollowed := true, recurses := true, named := ["virama/prop.errFile", "unicode/utf8.first", "unicode/utf8.acceptRanges", "internal/bytealg.MaxLen", "errors.errorType", "virama/trie.errRange", "virama/trie.errTrie", "virama/width.errWidth", "virama/width.errUtf", "virama/scalar.errUtf", "virama/scalar.errScalar", "virama/width.errScalar"], plainKeys := false, apart := false, laid := [("unicode/utf8.acceptRanges", laid_unicode_utf8_acceptRanges), ("errors.errorType", laid_errors_errorType), ("virama/scalar.errScalar", laid_virama_scalar_errScalar), ("virama/scalar.errUtf", laid_virama_scalar_errUtf), ("virama/prop.errFile", laid_virama_prop_errFile), ("virama/trie.errTrie", laid_virama_trie_errTrie), ("virama/trie.errRange", laid_virama_trie_errRange), ("virama/width.errWidth", laid_virama_width_errWidth), ("virama/width.errScalar", laid_virama_width_errScalar), ("virama/width.errUtf", laid_virama_width_errUtf), ("unicode/utf8.first", laid_unicode_utf8_first)], narrowed := true }
def WidthFitsUptoSaid : Prop := widthFitsUptoRow.holds Tryz.pinned (OpenSpec.upto widthFitsSpec)

end Rows
end Go.Proofs.YtjbeaheenfcgdaaGreatDoor
