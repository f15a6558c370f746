/-
  NARROWER THAN 'FOR EVERY INPUT', by the rows' own cells (each row's printed sentence says how): FiltBack: loops, laid · FiltWraps: loops, laid · FiltItems: laid · FiltSets: loops, laid · FiltStars: laid · FiltNames: loops, laid · FiltDigits: laid · FberReads: loops, laid · FberSets: loops, laid · FberNots: laid · FberBack: loops, laid · FberApart: loops, laid · FberTexts: laid.
  DERIVED. THE GIVEN ROWS OF THIS SEAT. 13 by the template 'for every input the law returns true; each argument reads behind the call as it read before'; 0 by the template 'total and deterministic' (their statements: YtiafggoaedifdaaGreatDoorTotals.lean).
  GIVEN WITH THE SEED: the statements are not yours to turn. If you find one false, say at which input.
  Laid BY PROGRAM, IN A SANDBOX (cutbox-rows.mjs): the forced cells as the released guide's own fill.sh prints them over the translation 23df0872406890a3… (all of the seat's roots in one cut). By AI agents, Wed Nov 11 2026. No macro, syntax, notation, axiom, sorry.
-/
import Derived.Test.YtiafggoaedifdaaGreatDoorChecked
import GoSem.PinnedTables
import GoSem.Claim
import GoSem.ClaimJoined
import GoSem.ClaimMapViews
import Derived.JoinedTies
import Derived.KernelRfl
namespace Go.Proofs.YtiafggoaedifdaaGreatDoor
/- THE CELL 'sum', in the pinned program and in every row, IS THE sha256 OF THE DUMP (.gsa) THAT YtiafggoaedifdaaGreatDoorProg.lean LOADS. Nothing in Lean hashes anything: it is a label: what it is worth is what the hold of that sum in a sandbox is worth. -/
noncomputable def Tryz.pinned : Pinned := { name := "ytiafggoaedifdaagreatdoor", sum := "23df0872406890a342818f5b59acd7d2674b353b6b561f4ccb5bc714ec8623f1", checked := Tryz.checked }
namespace Rows
def none {H : Type} : Left H := { results := [], args := [] }

/- WHAT THE LISTED PACKAGE-LEVEL VARIABLES READ AS WHEN THE CALL BEGINS. Each datum BY PROGRAM (the guide's laid-datum.mjs) off the statement by which the dump's own 'gosem.cut.vars' lays the variable. In a bare row this is a premise. The card (YtiafggoaedifdaaGreatDoorCards.lean) ties it to the program's text. -/
def laid_unicode_utf8_acceptRanges {H : Type} : DataW H := .agg [.agg [.lit (.int .u8 128), .lit (.int .u8 191)], .agg [.lit (.int .u8 160), .lit (.int .u8 191)], .agg [.lit (.int .u8 128), .lit (.int .u8 159)], .agg [.lit (.int .u8 144), .lit (.int .u8 191)], .agg [.lit (.int .u8 128), .lit (.int .u8 143)], .agg [.lit (.int .u8 0), .lit (.int .u8 0)], .agg [.lit (.int .u8 0), .lit (.int .u8 0)], .agg [.lit (.int .u8 0), .lit (.int .u8 0)], .agg [.lit (.int .u8 0), .lit (.int .u8 0)], .agg [.lit (.int .u8 0), .lit (.int .u8 0)], .agg [.lit (.int .u8 0), .lit (.int .u8 0)], .agg [.lit (.int .u8 0), .lit (.int .u8 0)], .agg [.lit (.int .u8 0), .lit (.int .u8 0)], .agg [.lit (.int .u8 0), .lit (.int .u8 0)], .agg [.lit (.int .u8 0), .lit (.int .u8 0)], .agg [.lit (.int .u8 0), .lit (.int .u8 0)]]
def laid_errors_errorType {H : Type} : DataW H := .iface "internal/reflectlite.rtype" (.agg [.ptr (.lit (.string [101, 114, 114, 111, 114]))])
def laid_latiner_code_errCode {H : Type} : DataW H := .iface "*errors.errorString" (.ptr (.agg [.lit (.string [110, 111, 32, 99, 111, 100, 101])]))
def laid_latiner_esc_errEscape {H : Type} : DataW H := .iface "*errors.errorString" (.ptr (.agg [.lit (.string [110, 111, 32, 118, 97, 108, 117, 101])]))
def laid_latiner_filt_errFilter {H : Type} : DataW H := .iface "*errors.errorString" (.ptr (.agg [.lit (.string [110, 111, 32, 102, 105, 108, 116, 101, 114])]))
/-- One of Go's own tables, pinned by name: the form's constant. -/
def laid_unicode_utf8_first : DataW Unit := Go.Pinned.utf8First
def laid_latiner_size_errShort {H : Type} : DataW H := .iface "*errors.errorString" (.ptr (.agg [.lit (.string [116, 111, 111, 32, 115, 104, 111, 114, 116])]))
def laid_latiner_size_errForm {H : Type} : DataW H := .iface "*errors.errorString" (.ptr (.agg [.lit (.string [110, 111, 32, 108, 101, 110, 103, 116, 104])]))
def laid_latiner_size_errSize {H : Type} : DataW H := .iface "*errors.errorString" (.ptr (.agg [.lit (.string [116, 111, 111, 32, 103, 114, 101, 97, 116])]))
def laid_latiner_tlv_errShort {H : Type} : DataW H := .iface "*errors.errorString" (.ptr (.agg [.lit (.string [116, 111, 111, 32, 115, 104, 111, 114, 116])]))
def laid_latiner_tlv_errForm {H : Type} : DataW H := .iface "*errors.errorString" (.ptr (.agg [.lit (.string [109, 111, 114, 101, 32, 98, 101, 104, 105, 110, 100, 32, 105, 116])]))
def laid_latiner_tlv_errTag {H : Type} : DataW H := .iface "*errors.errorString" (.ptr (.agg [.lit (.string [110, 111, 32, 116, 97, 103])]))
def laid_latiner_tlv_errNode {H : Type} : DataW H := .iface "*errors.errorString" (.ptr (.agg [.lit (.string [110, 111, 32, 116, 114, 101, 101])]))
def laid_latiner_fber_errFilter {H : Type} : DataW H := .iface "*errors.errorString" (.ptr (.agg [.lit (.string [110, 111, 32, 102, 105, 108, 116, 101, 114])]))

/-- 'latinerlaw08.FiltBack': WHATEVER THE INPUT: true; the input reads as it did. -/
def filtBackSpec : ChangeSpec := { name := "filtBack", fn := fun _ => fun
  | [d1, d2] => { results := [.lit (.bool true)], args := [d1, d2] }
  | _ => none }
def filtBackRow : OpenClaim := { program := "ytiafggoaedifdaagreatdoor", sum := "23df0872406890a342818f5b59acd7d2674b353b6b561f4ccb5bc714ec8623f1", func := "latiner/latinerlaw08.FiltBack", spec := "filtBack", inPlace := ["internal/bytealg.CountString", "internal/bytealg.IndexByteString", "internal/bytealg.IndexString", "internal/reflectlite.TypeOf", "internal/reflectlite.ValueOf", "(internal/reflectlite.Value).Type", "(internal/reflectlite.Value).IsNil", "(internal/reflectlite.Value).Elem", "(internal/reflectlite.Value).Set", "internal/abi.NoEscape"], unfollowed := true, recurses := true, named := ["unicode/utf8.first", "unicode/utf8.acceptRanges", "internal/bytealg.MaxLen", "latiner/filt.errFilter", "errors.errorType", "latiner/code.errCode", "latiner/esc.errEscape"], loops := true, apart := false, laid := [("unicode/utf8.acceptRanges", laid_unicode_utf8_acceptRanges), ("errors.errorType", laid_errors_errorType), ("latiner/code.errCode", laid_latiner_code_errCode), ("latiner/esc.errEscape", laid_latiner_esc_errEscape), ("latiner/filt.errFilter", laid_latiner_filt_errFilter), ("unicode/utf8.first", laid_unicode_utf8_first)] }
def FiltBackSaid : Prop := filtBackRow.holds Tryz.pinned (OpenSpec.ofChange filtBackSpec)

/-- ITS FALSE NEIGHBOUR: 'it returns false'. Refute it at one input. -/
def filtBackWrong : ChangeSpec := { name := "filtBack", fn := fun _ => fun
  | [d1, d2] => { results := [.lit (.bool false)], args := [d1, d2] }
  | _ => none }
def FiltBackWrongFalsely : Prop := filtBackRow.holds Tryz.pinned (OpenSpec.ofChange filtBackWrong)

/-- 'latinerlaw08.FiltWraps': WHATEVER THE INPUT: true; the input reads as it did. -/
def filtWrapsSpec : ChangeSpec := { name := "filtWraps", fn := fun _ => fun
  | [d] => { results := [.lit (.bool true)], args := [d] }
  | _ => none }
def filtWrapsRow : OpenClaim := { program := "ytiafggoaedifdaagreatdoor", sum := "23df0872406890a342818f5b59acd7d2674b353b6b561f4ccb5bc714ec8623f1", func := "latiner/latinerlaw08.FiltWraps", spec := "filtWraps", inPlace := ["internal/bytealg.CountString", "internal/bytealg.IndexByteString", "internal/bytealg.IndexString", "internal/reflectlite.TypeOf", "internal/reflectlite.ValueOf", "(internal/reflectlite.Value).Type", "(internal/reflectlite.Value).IsNil", "(internal/reflectlite.Value).Elem", "(internal/reflectlite.Value).Set", "internal/abi.NoEscape"], unfollowed := true, recurses := true, named := ["unicode/utf8.first", "unicode/utf8.acceptRanges", "internal/bytealg.MaxLen", "latiner/filt.errFilter", "errors.errorType", "latiner/code.errCode", "latiner/esc.errEscape"], loops := true, apart := false, laid := [("unicode/utf8.acceptRanges", laid_unicode_utf8_acceptRanges), ("errors.errorType", laid_errors_errorType), ("latiner/code.errCode", laid_latiner_code_errCode), ("latiner/esc.errEscape", laid_latiner_esc_errEscape), ("latiner/filt.errFilter", laid_latiner_filt_errFilter), ("unicode/utf8.first", laid_unicode_utf8_first)] }
def FiltWrapsSaid : Prop := filtWrapsRow.holds Tryz.pinned (OpenSpec.ofChange filtWrapsSpec)

/-- ITS FALSE NEIGHBOUR: 'it returns false'. Refute it at one input. -/
def filtWrapsWrong : ChangeSpec := { name := "filtWraps", fn := fun _ => fun
  | [d] => { results := [.lit (.bool false)], args := [d] }
  | _ => none }
def FiltWrapsWrongFalsely : Prop := filtWrapsRow.holds Tryz.pinned (OpenSpec.ofChange filtWrapsWrong)

/-- 'latinerlaw08.FiltItems': WHATEVER THE INPUT: true; the input reads as it did. -/
def filtItemsSpec : ChangeSpec := { name := "filtItems", fn := fun _ => fun
  | [d1, d2, d3] => { results := [.lit (.bool true)], args := [d1, d2, d3] }
  | _ => none }
def filtItemsRow : OpenClaim := { program := "ytiafggoaedifdaagreatdoor", sum := "23df0872406890a342818f5b59acd7d2674b353b6b561f4ccb5bc714ec8623f1", func := "latiner/latinerlaw08.FiltItems", spec := "filtItems", inPlace := ["internal/bytealg.CountString", "internal/bytealg.IndexByteString", "internal/bytealg.IndexString", "internal/reflectlite.TypeOf", "internal/reflectlite.ValueOf", "(internal/reflectlite.Value).Type", "(internal/reflectlite.Value).IsNil", "(internal/reflectlite.Value).Elem", "(internal/reflectlite.Value).Set", "internal/abi.NoEscape"], unfollowed := true, recurses := true, named := ["unicode/utf8.first", "unicode/utf8.acceptRanges", "internal/bytealg.MaxLen", "latiner/filt.errFilter", "errors.errorType", "latiner/code.errCode", "latiner/esc.errEscape"], apart := false, laid := [("unicode/utf8.acceptRanges", laid_unicode_utf8_acceptRanges), ("errors.errorType", laid_errors_errorType), ("latiner/code.errCode", laid_latiner_code_errCode), ("latiner/esc.errEscape", laid_latiner_esc_errEscape), ("latiner/filt.errFilter", laid_latiner_filt_errFilter), ("unicode/utf8.first", laid_unicode_utf8_first)] }
def FiltItemsSaid : Prop := filtItemsRow.holds Tryz.pinned (OpenSpec.ofChange filtItemsSpec)

/-- ITS FALSE NEIGHBOUR: 'it returns false'. Refute it at one input. -/
def filtItemsWrong : ChangeSpec := { name := "filtItems", fn := fun _ => fun
  | [d1, d2, d3] => { results := [.lit (.bool false)], args := [d1, d2, d3] }
  | _ => none }
def FiltItemsWrongFalsely : Prop := filtItemsRow.holds Tryz.pinned (OpenSpec.ofChange filtItemsWrong)

/-- 'latinerlaw08.FiltSets': WHATEVER THE INPUT: true; the input reads as it did. -/
def filtSetsSpec : ChangeSpec := { name := "filtSets", fn := fun _ => fun
  | [d1, d2, d3] => { results := [.lit (.bool true)], args := [d1, d2, d3] }
  | _ => none }
def filtSetsRow : OpenClaim := { program := "ytiafggoaedifdaagreatdoor", sum := "23df0872406890a342818f5b59acd7d2674b353b6b561f4ccb5bc714ec8623f1", func := "latiner/latinerlaw08.FiltSets", spec := "filtSets", inPlace := ["internal/bytealg.CountString", "internal/bytealg.IndexByteString", "internal/bytealg.IndexString", "internal/reflectlite.TypeOf", "internal/reflectlite.ValueOf", "(internal/reflectlite.Value).Type", "(internal/reflectlite.Value).IsNil", "(internal/reflectlite.Value).Elem", "(internal/reflectlite.Value).Set", "internal/abi.NoEscape"], unfollowed := true, recurses := true, named := ["unicode/utf8.first", "unicode/utf8.acceptRanges", "internal/bytealg.MaxLen", "latiner/filt.errFilter", "errors.errorType", "latiner/code.errCode", "latiner/esc.errEscape"], loops := true, apart := false, laid := [("unicode/utf8.acceptRanges", laid_unicode_utf8_acceptRanges), ("errors.errorType", laid_errors_errorType), ("latiner/code.errCode", laid_latiner_code_errCode), ("latiner/esc.errEscape", laid_latiner_esc_errEscape), ("latiner/filt.errFilter", laid_latiner_filt_errFilter), ("unicode/utf8.first", laid_unicode_utf8_first)] }
def FiltSetsSaid : Prop := filtSetsRow.holds Tryz.pinned (OpenSpec.ofChange filtSetsSpec)

/-- ITS FALSE NEIGHBOUR: 'it returns false'. Refute it at one input. -/
def filtSetsWrong : ChangeSpec := { name := "filtSets", fn := fun _ => fun
  | [d1, d2, d3] => { results := [.lit (.bool false)], args := [d1, d2, d3] }
  | _ => none }
def FiltSetsWrongFalsely : Prop := filtSetsRow.holds Tryz.pinned (OpenSpec.ofChange filtSetsWrong)

/-- 'latinerlaw08.FiltStars': WHATEVER THE INPUT: true; the input reads as it did. -/
def filtStarsSpec : ChangeSpec := { name := "filtStars", fn := fun _ => fun
  | [d1, d2, d3] => { results := [.lit (.bool true)], args := [d1, d2, d3] }
  | _ => none }
def filtStarsRow : OpenClaim := { program := "ytiafggoaedifdaagreatdoor", sum := "23df0872406890a342818f5b59acd7d2674b353b6b561f4ccb5bc714ec8623f1", func := "latiner/latinerlaw08.FiltStars", spec := "filtStars", inPlace := ["internal/bytealg.CountString", "internal/bytealg.IndexByteString", "internal/bytealg.IndexString", "internal/reflectlite.TypeOf", "internal/reflectlite.ValueOf", "(internal/reflectlite.Value).Type", "(internal/reflectlite.Value).IsNil", "(internal/reflectlite.Value).Elem", "(internal/reflectlite.Value).Set", "internal/abi.NoEscape"], unfollowed := true, recurses := true, named := ["unicode/utf8.first", "unicode/utf8.acceptRanges", "internal/bytealg.MaxLen", "latiner/filt.errFilter", "errors.errorType", "latiner/code.errCode", "latiner/esc.errEscape"], apart := false, laid := [("unicode/utf8.acceptRanges", laid_unicode_utf8_acceptRanges), ("errors.errorType", laid_errors_errorType), ("latiner/code.errCode", laid_latiner_code_errCode), ("latiner/esc.errEscape", laid_latiner_esc_errEscape), ("latiner/filt.errFilter", laid_latiner_filt_errFilter), ("unicode/utf8.first", laid_unicode_utf8_first)] }
def FiltStarsSaid : Prop := filtStarsRow.holds Tryz.pinned (OpenSpec.ofChange filtStarsSpec)

/-- ITS FALSE NEIGHBOUR: 'it returns false'. Refute it at one input. -/
def filtStarsWrong : ChangeSpec := { name := "filtStars", fn := fun _ => fun
  | [d1, d2, d3] => { results := [.lit (.bool false)], args := [d1, d2, d3] }
  | _ => none }
def FiltStarsWrongFalsely : Prop := filtStarsRow.holds Tryz.pinned (OpenSpec.ofChange filtStarsWrong)

/-- 'latinerlaw08.FiltNames': WHATEVER THE INPUT: true; the input reads as it did. -/
def filtNamesSpec : ChangeSpec := { name := "filtNames", fn := fun _ => fun
  | [d] => { results := [.lit (.bool true)], args := [d] }
  | _ => none }
def filtNamesRow : OpenClaim := { program := "ytiafggoaedifdaagreatdoor", sum := "23df0872406890a342818f5b59acd7d2674b353b6b561f4ccb5bc714ec8623f1", func := "latiner/latinerlaw08.FiltNames", spec := "filtNames", inPlace := ["internal/bytealg.CountString", "internal/bytealg.IndexByteString", "internal/bytealg.IndexString", "internal/reflectlite.TypeOf", "internal/reflectlite.ValueOf", "(internal/reflectlite.Value).Type", "(internal/reflectlite.Value).IsNil", "(internal/reflectlite.Value).Elem", "(internal/reflectlite.Value).Set", "internal/abi.NoEscape"], unfollowed := true, recurses := true, named := ["unicode/utf8.first", "unicode/utf8.acceptRanges", "internal/bytealg.MaxLen", "latiner/filt.errFilter", "errors.errorType", "latiner/code.errCode", "latiner/esc.errEscape"], loops := true, apart := false, laid := [("unicode/utf8.acceptRanges", laid_unicode_utf8_acceptRanges), ("errors.errorType", laid_errors_errorType), ("latiner/code.errCode", laid_latiner_code_errCode), ("latiner/esc.errEscape", laid_latiner_esc_errEscape), ("latiner/filt.errFilter", laid_latiner_filt_errFilter), ("unicode/utf8.first", laid_unicode_utf8_first)] }
def FiltNamesSaid : Prop := filtNamesRow.holds Tryz.pinned (OpenSpec.ofChange filtNamesSpec)

/-- ITS FALSE NEIGHBOUR: 'it returns false'. Refute it at one input. -/
def filtNamesWrong : ChangeSpec := { name := "filtNames", fn := fun _ => fun
  | [d] => { results := [.lit (.bool false)], args := [d] }
  | _ => none }
def FiltNamesWrongFalsely : Prop := filtNamesRow.holds Tryz.pinned (OpenSpec.ofChange filtNamesWrong)

/-- 'latinerlaw08.FiltDigits': WHATEVER THE INPUT: true; the input reads as it did. -/
def filtDigitsSpec : ChangeSpec := { name := "filtDigits", fn := fun _ => fun
  | [d1, d2] => { results := [.lit (.bool true)], args := [d1, d2] }
  | _ => none }
def filtDigitsRow : OpenClaim := { program := "ytiafggoaedifdaagreatdoor", sum := "23df0872406890a342818f5b59acd7d2674b353b6b561f4ccb5bc714ec8623f1", func := "latiner/latinerlaw08.FiltDigits", spec := "filtDigits", inPlace := ["internal/bytealg.CountString", "internal/bytealg.IndexByteString", "internal/bytealg.IndexString", "internal/reflectlite.TypeOf", "internal/reflectlite.ValueOf", "(internal/reflectlite.Value).Type", "(internal/reflectlite.Value).IsNil", "(internal/reflectlite.Value).Elem", "(internal/reflectlite.Value).Set", "internal/abi.NoEscape"], unfollowed := true, recurses := true, named := ["unicode/utf8.first", "unicode/utf8.acceptRanges", "internal/bytealg.MaxLen", "latiner/filt.errFilter", "errors.errorType", "latiner/code.errCode", "latiner/esc.errEscape"], apart := false, laid := [("unicode/utf8.acceptRanges", laid_unicode_utf8_acceptRanges), ("errors.errorType", laid_errors_errorType), ("latiner/code.errCode", laid_latiner_code_errCode), ("latiner/esc.errEscape", laid_latiner_esc_errEscape), ("latiner/filt.errFilter", laid_latiner_filt_errFilter), ("unicode/utf8.first", laid_unicode_utf8_first)] }
def FiltDigitsSaid : Prop := filtDigitsRow.holds Tryz.pinned (OpenSpec.ofChange filtDigitsSpec)

/-- ITS FALSE NEIGHBOUR: 'it returns false'. Refute it at one input. -/
def filtDigitsWrong : ChangeSpec := { name := "filtDigits", fn := fun _ => fun
  | [d1, d2] => { results := [.lit (.bool false)], args := [d1, d2] }
  | _ => none }
def FiltDigitsWrongFalsely : Prop := filtDigitsRow.holds Tryz.pinned (OpenSpec.ofChange filtDigitsWrong)

/-- 'latinerlaw09.FberReads': WHATEVER THE INPUT: true; the input reads as it did. -/
def fberReadsSpec : ChangeSpec := { name := "fberReads", fn := fun _ => fun
  | [d1, d2] => { results := [.lit (.bool true)], args := [d1, d2] }
  | _ => none }
def fberReadsRow : OpenClaim := { program := "ytiafggoaedifdaagreatdoor", sum := "23df0872406890a342818f5b59acd7d2674b353b6b561f4ccb5bc714ec8623f1", func := "latiner/latinerlaw09.FberReads", spec := "fberReads", inPlace := ["internal/bytealg.CountString", "internal/bytealg.IndexByteString", "internal/bytealg.IndexString", "internal/reflectlite.TypeOf", "internal/reflectlite.ValueOf", "(internal/reflectlite.Value).Type", "(internal/reflectlite.Value).IsNil", "(internal/reflectlite.Value).Elem", "(internal/reflectlite.Value).Set", "internal/abi.NoEscape", "internal/bytealg.MakeNoZero"], unfollowed := true, recurses := true, named := ["unicode/utf8.first", "unicode/utf8.acceptRanges", "internal/bytealg.MaxLen", "latiner/fber.errFilter", "errors.errorType", "latiner/tlv.errNode", "latiner/size.errSize", "latiner/size.errShort", "latiner/size.errForm", "latiner/tlv.errShort", "latiner/tlv.errForm", "latiner/tlv.errTag", "latiner/filt.errFilter"], loops := true, apart := false, laid := [("unicode/utf8.acceptRanges", laid_unicode_utf8_acceptRanges), ("errors.errorType", laid_errors_errorType), ("latiner/size.errShort", laid_latiner_size_errShort), ("latiner/size.errForm", laid_latiner_size_errForm), ("latiner/size.errSize", laid_latiner_size_errSize), ("latiner/tlv.errShort", laid_latiner_tlv_errShort), ("latiner/tlv.errForm", laid_latiner_tlv_errForm), ("latiner/tlv.errTag", laid_latiner_tlv_errTag), ("latiner/tlv.errNode", laid_latiner_tlv_errNode), ("latiner/filt.errFilter", laid_latiner_filt_errFilter), ("latiner/fber.errFilter", laid_latiner_fber_errFilter), ("unicode/utf8.first", laid_unicode_utf8_first)] }
def FberReadsSaid : Prop := fberReadsRow.holds Tryz.pinned (OpenSpec.ofChange fberReadsSpec)

/-- ITS FALSE NEIGHBOUR: 'it returns false'. Refute it at one input. -/
def fberReadsWrong : ChangeSpec := { name := "fberReads", fn := fun _ => fun
  | [d1, d2] => { results := [.lit (.bool false)], args := [d1, d2] }
  | _ => none }
def FberReadsWrongFalsely : Prop := fberReadsRow.holds Tryz.pinned (OpenSpec.ofChange fberReadsWrong)

/-- 'latinerlaw09.FberSets': WHATEVER THE INPUT: true; the input reads as it did. -/
def fberSetsSpec : ChangeSpec := { name := "fberSets", fn := fun _ => fun
  | [d1, d2] => { results := [.lit (.bool true)], args := [d1, d2] }
  | _ => none }
def fberSetsRow : OpenClaim := { program := "ytiafggoaedifdaagreatdoor", sum := "23df0872406890a342818f5b59acd7d2674b353b6b561f4ccb5bc714ec8623f1", func := "latiner/latinerlaw09.FberSets", spec := "fberSets", inPlace := ["internal/bytealg.CountString", "internal/bytealg.IndexByteString", "internal/bytealg.IndexString", "internal/reflectlite.TypeOf", "internal/reflectlite.ValueOf", "(internal/reflectlite.Value).Type", "(internal/reflectlite.Value).IsNil", "(internal/reflectlite.Value).Elem", "(internal/reflectlite.Value).Set", "internal/abi.NoEscape", "internal/bytealg.MakeNoZero"], unfollowed := true, recurses := true, named := ["unicode/utf8.first", "unicode/utf8.acceptRanges", "internal/bytealg.MaxLen", "latiner/fber.errFilter", "errors.errorType", "latiner/tlv.errNode", "latiner/size.errSize", "latiner/size.errShort", "latiner/size.errForm", "latiner/tlv.errShort", "latiner/tlv.errForm", "latiner/tlv.errTag", "latiner/filt.errFilter"], loops := true, apart := false, laid := [("unicode/utf8.acceptRanges", laid_unicode_utf8_acceptRanges), ("errors.errorType", laid_errors_errorType), ("latiner/size.errShort", laid_latiner_size_errShort), ("latiner/size.errForm", laid_latiner_size_errForm), ("latiner/size.errSize", laid_latiner_size_errSize), ("latiner/tlv.errShort", laid_latiner_tlv_errShort), ("latiner/tlv.errForm", laid_latiner_tlv_errForm), ("latiner/tlv.errTag", laid_latiner_tlv_errTag), ("latiner/tlv.errNode", laid_latiner_tlv_errNode), ("latiner/filt.errFilter", laid_latiner_filt_errFilter), ("latiner/fber.errFilter", laid_latiner_fber_errFilter), ("unicode/utf8.first", laid_unicode_utf8_first)] }
def FberSetsSaid : Prop := fberSetsRow.holds Tryz.pinned (OpenSpec.ofChange fberSetsSpec)

/-- ITS FALSE NEIGHBOUR: 'it returns false'. Refute it at one input. -/
def fberSetsWrong : ChangeSpec := { name := "fberSets", fn := fun _ => fun
  | [d1, d2] => { results := [.lit (.bool false)], args := [d1, d2] }
  | _ => none }
def FberSetsWrongFalsely : Prop := fberSetsRow.holds Tryz.pinned (OpenSpec.ofChange fberSetsWrong)

/-- 'latinerlaw09.FberNots': WHATEVER THE INPUT: true; the input reads as it did. -/
def fberNotsSpec : ChangeSpec := { name := "fberNots", fn := fun _ => fun
  | [d] => { results := [.lit (.bool true)], args := [d] }
  | _ => none }
def fberNotsRow : OpenClaim := { program := "ytiafggoaedifdaagreatdoor", sum := "23df0872406890a342818f5b59acd7d2674b353b6b561f4ccb5bc714ec8623f1", func := "latiner/latinerlaw09.FberNots", spec := "fberNots", inPlace := ["internal/bytealg.CountString", "internal/bytealg.IndexByteString", "internal/bytealg.IndexString", "internal/reflectlite.TypeOf", "internal/reflectlite.ValueOf", "(internal/reflectlite.Value).Type", "(internal/reflectlite.Value).IsNil", "(internal/reflectlite.Value).Elem", "(internal/reflectlite.Value).Set", "internal/abi.NoEscape", "internal/bytealg.MakeNoZero"], unfollowed := true, recurses := true, named := ["unicode/utf8.first", "unicode/utf8.acceptRanges", "internal/bytealg.MaxLen", "latiner/fber.errFilter", "errors.errorType", "latiner/tlv.errNode", "latiner/size.errSize", "latiner/size.errShort", "latiner/size.errForm", "latiner/tlv.errShort", "latiner/tlv.errForm", "latiner/tlv.errTag", "latiner/filt.errFilter"], apart := false, laid := [("unicode/utf8.acceptRanges", laid_unicode_utf8_acceptRanges), ("errors.errorType", laid_errors_errorType), ("latiner/size.errShort", laid_latiner_size_errShort), ("latiner/size.errForm", laid_latiner_size_errForm), ("latiner/size.errSize", laid_latiner_size_errSize), ("latiner/tlv.errShort", laid_latiner_tlv_errShort), ("latiner/tlv.errForm", laid_latiner_tlv_errForm), ("latiner/tlv.errTag", laid_latiner_tlv_errTag), ("latiner/tlv.errNode", laid_latiner_tlv_errNode), ("latiner/filt.errFilter", laid_latiner_filt_errFilter), ("latiner/fber.errFilter", laid_latiner_fber_errFilter), ("unicode/utf8.first", laid_unicode_utf8_first)] }
def FberNotsSaid : Prop := fberNotsRow.holds Tryz.pinned (OpenSpec.ofChange fberNotsSpec)

/-- ITS FALSE NEIGHBOUR: 'it returns false'. Refute it at one input. -/
def fberNotsWrong : ChangeSpec := { name := "fberNots", fn := fun _ => fun
  | [d] => { results := [.lit (.bool false)], args := [d] }
  | _ => none }
def FberNotsWrongFalsely : Prop := fberNotsRow.holds Tryz.pinned (OpenSpec.ofChange fberNotsWrong)

/-- 'latinerlaw09.FberBack': WHATEVER THE INPUT: true; the input reads as it did. -/
def fberBackSpec : ChangeSpec := { name := "fberBack", fn := fun _ => fun
  | [d] => { results := [.lit (.bool true)], args := [d] }
  | _ => none }
def fberBackRow : OpenClaim := { program := "ytiafggoaedifdaagreatdoor", sum := "23df0872406890a342818f5b59acd7d2674b353b6b561f4ccb5bc714ec8623f1", func := "latiner/latinerlaw09.FberBack", spec := "fberBack", inPlace := ["internal/bytealg.CountString", "internal/bytealg.IndexByteString", "internal/bytealg.IndexString", "internal/reflectlite.TypeOf", "internal/reflectlite.ValueOf", "(internal/reflectlite.Value).Type", "(internal/reflectlite.Value).IsNil", "(internal/reflectlite.Value).Elem", "(internal/reflectlite.Value).Set", "internal/abi.NoEscape", "internal/bytealg.MakeNoZero"], unfollowed := true, recurses := true, named := ["unicode/utf8.first", "unicode/utf8.acceptRanges", "internal/bytealg.MaxLen", "latiner/fber.errFilter", "errors.errorType", "latiner/tlv.errNode", "latiner/size.errSize", "latiner/size.errShort", "latiner/size.errForm", "latiner/tlv.errShort", "latiner/tlv.errForm", "latiner/tlv.errTag", "latiner/filt.errFilter"], loops := true, apart := false, laid := [("unicode/utf8.acceptRanges", laid_unicode_utf8_acceptRanges), ("errors.errorType", laid_errors_errorType), ("latiner/size.errShort", laid_latiner_size_errShort), ("latiner/size.errForm", laid_latiner_size_errForm), ("latiner/size.errSize", laid_latiner_size_errSize), ("latiner/tlv.errShort", laid_latiner_tlv_errShort), ("latiner/tlv.errForm", laid_latiner_tlv_errForm), ("latiner/tlv.errTag", laid_latiner_tlv_errTag), ("latiner/tlv.errNode", laid_latiner_tlv_errNode), ("latiner/filt.errFilter", laid_latiner_filt_errFilter), ("latiner/fber.errFilter", laid_latiner_fber_errFilter), ("unicode/utf8.first", laid_unicode_utf8_first)] }
def FberBackSaid : Prop := fberBackRow.holds Tryz.pinned (OpenSpec.ofChange fberBackSpec)

/-- ITS FALSE NEIGHBOUR: 'it returns false'. Refute it at one input. -/
def fberBackWrong : ChangeSpec := { name := "fberBack", fn := fun _ => fun
  | [d] => { results := [.lit (.bool false)], args := [d] }
  | _ => none }
def FberBackWrongFalsely : Prop := fberBackRow.holds Tryz.pinned (OpenSpec.ofChange fberBackWrong)

/-- 'latinerlaw09.FberApart': WHATEVER THE INPUT: true; the input reads as it did. -/
def fberApartSpec : ChangeSpec := { name := "fberApart", fn := fun _ => fun
  | [d1, d2] => { results := [.lit (.bool true)], args := [d1, d2] }
  | _ => none }
def fberApartRow : OpenClaim := { program := "ytiafggoaedifdaagreatdoor", sum := "23df0872406890a342818f5b59acd7d2674b353b6b561f4ccb5bc714ec8623f1", func := "latiner/latinerlaw09.FberApart", spec := "fberApart", inPlace := ["internal/bytealg.CountString", "internal/bytealg.IndexByteString", "internal/bytealg.IndexString", "internal/reflectlite.TypeOf", "internal/reflectlite.ValueOf", "(internal/reflectlite.Value).Type", "(internal/reflectlite.Value).IsNil", "(internal/reflectlite.Value).Elem", "(internal/reflectlite.Value).Set", "internal/abi.NoEscape", "internal/bytealg.MakeNoZero"], unfollowed := true, recurses := true, named := ["unicode/utf8.first", "unicode/utf8.acceptRanges", "internal/bytealg.MaxLen", "latiner/fber.errFilter", "errors.errorType", "latiner/tlv.errNode", "latiner/size.errSize", "latiner/size.errShort", "latiner/size.errForm", "latiner/tlv.errShort", "latiner/tlv.errForm", "latiner/tlv.errTag", "latiner/filt.errFilter"], loops := true, apart := false, laid := [("unicode/utf8.acceptRanges", laid_unicode_utf8_acceptRanges), ("errors.errorType", laid_errors_errorType), ("latiner/size.errShort", laid_latiner_size_errShort), ("latiner/size.errForm", laid_latiner_size_errForm), ("latiner/size.errSize", laid_latiner_size_errSize), ("latiner/tlv.errShort", laid_latiner_tlv_errShort), ("latiner/tlv.errForm", laid_latiner_tlv_errForm), ("latiner/tlv.errTag", laid_latiner_tlv_errTag), ("latiner/tlv.errNode", laid_latiner_tlv_errNode), ("latiner/filt.errFilter", laid_latiner_filt_errFilter), ("latiner/fber.errFilter", laid_latiner_fber_errFilter), ("unicode/utf8.first", laid_unicode_utf8_first)] }
def FberApartSaid : Prop := fberApartRow.holds Tryz.pinned (OpenSpec.ofChange fberApartSpec)

/-- ITS FALSE NEIGHBOUR: 'it returns false'. Refute it at one input. -/
def fberApartWrong : ChangeSpec := { name := "fberApart", fn := fun _ => fun
  | [d1, d2] => { results := [.lit (.bool false)], args := [d1, d2] }
  | _ => none }
def FberApartWrongFalsely : Prop := fberApartRow.holds Tryz.pinned (OpenSpec.ofChange fberApartWrong)

/-- 'latinerlaw09.FberTexts': WHATEVER THE INPUT: true; the input reads as it did. -/
def fberTextsSpec : ChangeSpec := { name := "fberTexts", fn := fun _ => fun
  | [d] => { results := [.lit (.bool true)], args := [d] }
  | _ => none }
def fberTextsRow : OpenClaim := { program := "ytiafggoaedifdaagreatdoor", sum := "23df0872406890a342818f5b59acd7d2674b353b6b561f4ccb5bc714ec8623f1", func := "latiner/latinerlaw09.FberTexts", spec := "fberTexts", inPlace := ["internal/bytealg.CountString", "internal/bytealg.IndexByteString", "internal/bytealg.IndexString", "internal/reflectlite.TypeOf", "internal/reflectlite.ValueOf", "(internal/reflectlite.Value).Type", "(internal/reflectlite.Value).IsNil", "(internal/reflectlite.Value).Elem", "(internal/reflectlite.Value).Set", "internal/abi.NoEscape", "internal/bytealg.MakeNoZero"], unfollowed := true, recurses := true, named := ["unicode/utf8.first", "unicode/utf8.acceptRanges", "internal/bytealg.MaxLen", "latiner/fber.errFilter", "errors.errorType", "latiner/tlv.errNode", "latiner/size.errSize", "latiner/size.errShort", "latiner/size.errForm", "latiner/tlv.errShort", "latiner/tlv.errForm", "latiner/tlv.errTag", "latiner/filt.errFilter", "latiner/code.errCode", "latiner/esc.errEscape"], apart := false, laid := [("unicode/utf8.acceptRanges", laid_unicode_utf8_acceptRanges), ("errors.errorType", laid_errors_errorType), ("latiner/size.errShort", laid_latiner_size_errShort), ("latiner/size.errForm", laid_latiner_size_errForm), ("latiner/size.errSize", laid_latiner_size_errSize), ("latiner/code.errCode", laid_latiner_code_errCode), ("latiner/tlv.errShort", laid_latiner_tlv_errShort), ("latiner/tlv.errForm", laid_latiner_tlv_errForm), ("latiner/tlv.errTag", laid_latiner_tlv_errTag), ("latiner/tlv.errNode", laid_latiner_tlv_errNode), ("latiner/esc.errEscape", laid_latiner_esc_errEscape), ("latiner/filt.errFilter", laid_latiner_filt_errFilter), ("latiner/fber.errFilter", laid_latiner_fber_errFilter), ("unicode/utf8.first", laid_unicode_utf8_first)] }
def FberTextsSaid : Prop := fberTextsRow.holds Tryz.pinned (OpenSpec.ofChange fberTextsSpec)

/-- ITS FALSE NEIGHBOUR: 'it returns false'. Refute it at one input. -/
def fberTextsWrong : ChangeSpec := { name := "fberTexts", fn := fun _ => fun
  | [d] => { results := [.lit (.bool false)], args := [d] }
  | _ => none }
def FberTextsWrongFalsely : Prop := fberTextsRow.holds Tryz.pinned (OpenSpec.ofChange fberTextsWrong)

/- THE SECOND FORM. 'bulk': how many values and letters a reading holds, each counted each time it is reached (what is shared counts as often as it is met; a slice's spare places count too). A statement '..UptoSaid' is the law's where the arguments, and the package variables that the reading takes, are together of bulk at most 1048576: NARROWER than '..Said'. Prove '..Said' where nothing that the law and all that it calls make is longer than what came in: it says more and counts as full. Else prove '..UptoSaid'. A law counts once. -/
mutual
def uptoBulk {H : Type} : DataW H → Nat
  | .lit (.string bytes) => bytes.length + 1
  | .lit _ => 1
  | .nil => 1
  | .ptr d => uptoBulk d + 1
  | .slice elems spare => uptoBulkAll elems + uptoBulkAll spare + 1
  | .agg parts => uptoBulkAll parts + 1
  | .iface _ d => uptoBulk d + 1
  | .map entries => uptoBulkEntries entries + 1
  | .held _ => 1
def uptoBulkAll {H : Type} : List (DataW H) → Nat
  | [] => 0
  | d :: r => uptoBulk d + uptoBulkAll r
def uptoBulkEntries {H : Type} : List (Lit × DataW H) → Nat
  | [] => 0
  | x :: r => uptoBulkEntry x + uptoBulkEntries r
def uptoBulkEntry {H : Type} : Lit × DataW H → Nat
  | (.string bytes, d) => bytes.length + uptoBulk d + 1
  | (_, d) => uptoBulk d + 1
 end
def uptoSmall : (H : Type) → List (DataW H) → Bool := fun _ ds => decide (uptoBulkAll ds ≤ 1048576)
def OpenSpec.upto (s : _root_.Go.ChangeSpec) : _root_.Go.OpenSpec := { _root_.Go.OpenSpec.ofChange s with cond := some uptoSmall }

/-- 'latinerlaw08.FiltBack', WHERE WHAT IT READS IS OF BULK AT MOST 1048576: true; the input reads as it did. -/
def filtBackUptoRow : OpenClaim := { program := "ytiafggoaedifdaagreatdoor", sum := "23df0872406890a342818f5b59acd7d2674b353b6b561f4ccb5bc714ec8623f1", func := "latiner/latinerlaw08.FiltBack", spec := "filtBack", inPlace := ["internal/bytealg.CountString", "internal/bytealg.IndexByteString", "internal/bytealg.IndexString", "internal/reflectlite.TypeOf", "internal/reflectlite.ValueOf", "(internal/reflectlite.Value).Type", "(internal/reflectlite.Value).IsNil", "(internal/reflectlite.Value).Elem", "(internal/reflectlite.Value).Set", "internal/abi.NoEscape"], unfollowed := true, recurses := true, named := ["unicode/utf8.first", "unicode/utf8.acceptRanges", "internal/bytealg.MaxLen", "latiner/filt.errFilter", "errors.errorType", "latiner/code.errCode", "latiner/esc.errEscape"], loops := true, apart := false, laid := [("unicode/utf8.acceptRanges", laid_unicode_utf8_acceptRanges), ("errors.errorType", laid_errors_errorType), ("latiner/code.errCode", laid_latiner_code_errCode), ("latiner/esc.errEscape", laid_latiner_esc_errEscape), ("latiner/filt.errFilter", laid_latiner_filt_errFilter), ("unicode/utf8.first", laid_unicode_utf8_first)], narrowed := true }
def FiltBackUptoSaid : Prop := filtBackUptoRow.holds Tryz.pinned (OpenSpec.upto filtBackSpec)

/-- 'latinerlaw08.FiltWraps', WHERE WHAT IT READS IS OF BULK AT MOST 1048576: true; the input reads as it did. -/
def filtWrapsUptoRow : OpenClaim := { program := "ytiafggoaedifdaagreatdoor", sum := "23df0872406890a342818f5b59acd7d2674b353b6b561f4ccb5bc714ec8623f1", func := "latiner/latinerlaw08.FiltWraps", spec := "filtWraps", inPlace := ["internal/bytealg.CountString", "internal/bytealg.IndexByteString", "internal/bytealg.IndexString", "internal/reflectlite.TypeOf", "internal/reflectlite.ValueOf", "(internal/reflectlite.Value).Type", "(internal/reflectlite.Value).IsNil", "(internal/reflectlite.Value).Elem", "(internal/reflectlite.Value).Set", "internal/abi.NoEscape"], unfollowed := true, recurses := true, named := ["unicode/utf8.first", "unicode/utf8.acceptRanges", "internal/bytealg.MaxLen", "latiner/filt.errFilter", "errors.errorType", "latiner/code.errCode", "latiner/esc.errEscape"], loops := true, apart := false, laid := [("unicode/utf8.acceptRanges", laid_unicode_utf8_acceptRanges), ("errors.errorType", laid_errors_errorType), ("latiner/code.errCode", laid_latiner_code_errCode), ("latiner/esc.errEscape", laid_latiner_esc_errEscape), ("latiner/filt.errFilter", laid_latiner_filt_errFilter), ("unicode/utf8.first", laid_unicode_utf8_first)], narrowed := true }
def FiltWrapsUptoSaid : Prop := filtWrapsUptoRow.holds Tryz.pinned (OpenSpec.upto filtWrapsSpec)

/-- 'latinerlaw08.FiltItems', WHERE WHAT IT READS IS OF BULK AT MOST 1048576: true; the input reads as it did. -/
def filtItemsUptoRow : OpenClaim := { program := "ytiafggoaedifdaagreatdoor", sum := "23df0872406890a342818f5b59acd7d2674b353b6b561f4ccb5bc714ec8623f1", func := "latiner/latinerlaw08.FiltItems", spec := "filtItems", inPlace := ["internal/bytealg.CountString", "internal/bytealg.IndexByteString", "internal/bytealg.IndexString", "internal/reflectlite.TypeOf", "internal/reflectlite.ValueOf", "(internal/reflectlite.Value).Type", "(internal/reflectlite.Value).IsNil", "(internal/reflectlite.Value).Elem", "(internal/reflectlite.Value).Set", "internal/abi.NoEscape"], unfollowed := true, recurses := true, named := ["unicode/utf8.first", "unicode/utf8.acceptRanges", "internal/bytealg.MaxLen", "latiner/filt.errFilter", "errors.errorType", "latiner/code.errCode", "latiner/esc.errEscape"], apart := false, laid := [("unicode/utf8.acceptRanges", laid_unicode_utf8_acceptRanges), ("errors.errorType", laid_errors_errorType), ("latiner/code.errCode", laid_latiner_code_errCode), ("latiner/esc.errEscape", laid_latiner_esc_errEscape), ("latiner/filt.errFilter", laid_latiner_filt_errFilter), ("unicode/utf8.first", laid_unicode_utf8_first)], narrowed := true }
def FiltItemsUptoSaid : Prop := filtItemsUptoRow.holds Tryz.pinned (OpenSpec.upto filtItemsSpec)

/-- 'latinerlaw08.FiltSets', WHERE WHAT IT READS IS OF BULK AT MOST 1048576: true; the input reads as it did. -/
def filtSetsUptoRow : OpenClaim := { program := "ytiafggoaedifdaagreatdoor", sum := "23df0872406890a342818f5b59acd7d2674b353b6b561f4ccb5bc714ec8623f1", func := "latiner/latinerlaw08.FiltSets", spec := "filtSets", inPlace := ["internal/bytealg.CountString", "internal/bytealg.IndexByteString", "internal/bytealg.IndexString", "internal/reflectlite.TypeOf", "internal/reflectlite.ValueOf", "(internal/reflectlite.Value).Type", "(internal/reflectlite.Value).IsNil", "(internal/reflectlite.Value).Elem", "(internal/reflectlite.Value).Set", "internal/abi.NoEscape"], unfollowed := true, recurses := true, named := ["unicode/utf8.first", "unicode/utf8.acceptRanges", "internal/bytealg.MaxLen", "latiner/filt.errFilter", "errors.errorType", "latiner/code.errCode", "latiner/esc.errEscape"], loops := true, apart := false, laid := [("unicode/utf8.acceptRanges", laid_unicode_utf8_acceptRanges), ("errors.errorType", laid_errors_errorType), ("latiner/code.errCode", laid_latiner_code_errCode), ("latiner/esc.errEscape", laid_latiner_esc_errEscape), ("latiner/filt.errFilter", laid_latiner_filt_errFilter), ("unicode/utf8.first", laid_unicode_utf8_first)], narrowed := true }
def FiltSetsUptoSaid : Prop := filtSetsUptoRow.holds Tryz.pinned (OpenSpec.upto filtSetsSpec)

/-- 'latinerlaw08.FiltStars', WHERE WHAT IT READS IS OF BULK AT MOST 1048576: true; the input reads as it did. -/
def filtStarsUptoRow : OpenClaim := { program := "ytiafggoaedifdaagreatdoor", sum := "23df0872406890a342818f5b59acd7d2674b353b6b561f4ccb5bc714ec8623f1", func := "latiner/latinerlaw08.FiltStars", spec := "filtStars", inPlace := ["internal/bytealg.CountString", "internal/bytealg.IndexByteString", "internal/bytealg.IndexString", "internal/reflectlite.TypeOf", "internal/reflectlite.ValueOf", "(internal/reflectlite.Value).Type", "(internal/reflectlite.Value).IsNil", "(internal/reflectlite.Value).Elem", "(internal/reflectlite.Value).Set", "internal/abi.NoEscape"], unfollowed := true, recurses := true, named := ["unicode/utf8.first", "unicode/utf8.acceptRanges", "internal/bytealg.MaxLen", "latiner/filt.errFilter", "errors.errorType", "latiner/code.errCode", "latiner/esc.errEscape"], apart := false, laid := [("unicode/utf8.acceptRanges", laid_unicode_utf8_acceptRanges), ("errors.errorType", laid_errors_errorType), ("latiner/code.errCode", laid_latiner_code_errCode), ("latiner/esc.errEscape", laid_latiner_esc_errEscape), ("latiner/filt.errFilter", laid_latiner_filt_errFilter), ("unicode/utf8.first", laid_unicode_utf8_first)], narrowed := true }
def FiltStarsUptoSaid : Prop := filtStarsUptoRow.holds Tryz.pinned (OpenSpec.upto filtStarsSpec)

/-- 'latinerlaw08.FiltNames', WHERE WHAT IT READS IS OF BULK AT MOST 1048576: true; the input reads as it did. -/
def filtNamesUptoRow : OpenClaim := { program := "ytiafggoaedifdaagreatdoor", sum := "23df0872406890a342818f5b59acd7d2674b353b6b561f4ccb5bc714ec8623f1", func := "latiner/latinerlaw08.FiltNames", spec := "filtNames", inPlace := ["internal/bytealg.CountString", "internal/bytealg.IndexByteString", "internal/bytealg.IndexString", "internal/reflectlite.TypeOf", "internal/reflectlite.ValueOf", "(internal/reflectlite.Value).Type", "(internal/reflectlite.Value).IsNil", "(internal/reflectlite.Value).Elem", "(internal/reflectlite.Value).Set", "internal/abi.NoEscape"], unfollowed := true, recurses := true, named := ["unicode/utf8.first", "unicode/utf8.acceptRanges", "internal/bytealg.MaxLen", "latiner/filt.errFilter", "errors.errorType", "latiner/code.errCode", "latiner/esc.errEscape"], loops := true, apart := false, laid := [("unicode/utf8.acceptRanges", laid_unicode_utf8_acceptRanges), ("errors.errorType", laid_errors_errorType), ("latiner/code.errCode", laid_latiner_code_errCode), ("latiner/esc.errEscape", laid_latiner_esc_errEscape), ("latiner/filt.errFilter", laid_latiner_filt_errFilter), ("unicode/utf8.first", laid_unicode_utf8_first)], narrowed := true }
def FiltNamesUptoSaid : Prop := filtNamesUptoRow.holds Tryz.pinned (OpenSpec.upto filtNamesSpec)

/-- 'latinerlaw08.FiltDigits', WHERE WHAT IT READS IS OF BULK AT MOST 1048576: true; the input reads as it did. -/
def filtDigitsUptoRow : OpenClaim := { program := "ytiafggoaedifdaagreatdoor", sum := "23df0872406890a342818f5b59acd7d2674b353b6b561f4ccb5bc714ec8623f1", func := "latiner/latinerlaw08.FiltDigits", spec := "filtDigits", inPlace := ["internal/bytealg.CountString", "internal/bytealg.IndexByteString", "internal/bytealg.IndexString", "internal/reflectlite.TypeOf", "internal/reflectlite.ValueOf", "(internal/reflectlite.Value).Type", "(internal/reflectlite.Value).IsNil", "(internal/reflectlite.Value).Elem", "(internal/reflectlite.Value).Set", "internal/abi.NoEscape"], unfollowed := true, recurses := true, named := ["unicode/utf8.first", "unicode/utf8.acceptRanges", "internal/bytealg.MaxLen", "latiner/filt.errFilter", "errors.errorType", "latiner/code.errCode", "latiner/esc.errEscape"], apart := false, laid := [("unicode/utf8.acceptRanges", laid_unicode_utf8_acceptRanges), ("errors.errorType", laid_errors_errorType), ("latiner/code.errCode", laid_latiner_code_errCode), ("latiner/esc.errEscape", laid_latiner_esc_errEscape), ("latiner/filt.errFilter", laid_latiner_filt_errFilter), ("unicode/utf8.first", laid_unicode_utf8_first)], narrowed := true }
def FiltDigitsUptoSaid : Prop := filtDigitsUptoRow.holds Tryz.pinned (OpenSpec.upto filtDigitsSpec)

/-- 'latinerlaw09.FberReads', WHERE WHAT IT READS IS OF BULK AT MOST 1048576: true; the input reads as it did. -/
def fberReadsUptoRow : OpenClaim := { program := "ytiafggoaedifdaagreatdoor", sum := "23df0872406890a342818f5b59acd7d2674b353b6b561f4ccb5bc714ec8623f1", func := "latiner/latinerlaw09.FberReads", spec := "fberReads", inPlace := ["internal/bytealg.CountString", "internal/bytealg.IndexByteString", "internal/bytealg.IndexString", "internal/reflectlite.TypeOf", "internal/reflectlite.ValueOf", "(internal/reflectlite.Value).Type", "(internal/reflectlite.Value).IsNil", "(internal/reflectlite.Value).Elem", "(internal/reflectlite.Value).Set", "internal/abi.NoEscape", "internal/bytealg.MakeNoZero"], unfollowed := true, recurses := true, named := ["unicode/utf8.first", "unicode/utf8.acceptRanges", "internal/bytealg.MaxLen", "latiner/fber.errFilter", "errors.errorType", "latiner/tlv.errNode", "latiner/size.errSize", "latiner/size.errShort", "latiner/size.errForm", "latiner/tlv.errShort", "latiner/tlv.errForm", "latiner/tlv.errTag", "latiner/filt.errFilter"], loops := true, apart := false, laid := [("unicode/utf8.acceptRanges", laid_unicode_utf8_acceptRanges), ("errors.errorType", laid_errors_errorType), ("latiner/size.errShort", laid_latiner_size_errShort), ("latiner/size.errForm", laid_latiner_size_errForm), ("latiner/size.errSize", laid_latiner_size_errSize), ("latiner/tlv.errShort", laid_latiner_tlv_errShort), ("latiner/tlv.errForm", laid_latiner_tlv_errForm), ("latiner/tlv.errTag", laid_latiner_tlv_errTag), ("latiner/tlv.errNode", laid_latiner_tlv_errNode), ("latiner/filt.errFilter", laid_latiner_filt_errFilter), ("latiner/fber.errFilter", laid_latiner_fber_errFilter), ("unicode/utf8.first", laid_unicode_utf8_first)], narrowed := true }
def FberReadsUptoSaid : Prop := fberReadsUptoRow.holds Tryz.pinned (OpenSpec.upto fberReadsSpec)

/-- 'latinerlaw09.FberSets', WHERE WHAT IT READS IS OF BULK AT MOST 1048576: true; the input reads as it did. -/
def fberSetsUptoRow : OpenClaim := { program := "ytiafggoaedifdaagreatdoor", sum := "23df0872406890a342818f5b59acd7d2674b353b6b561f4ccb5bc714ec8623f1", func := "latiner/latinerlaw09.FberSets", spec := "fberSets", inPlace := ["internal/bytealg.CountString", "internal/bytealg.IndexByteString", "internal/bytealg.IndexString", "internal/reflectlite.TypeOf", "internal/reflectlite.ValueOf", "(internal/reflectlite.Value).Type", "(internal/reflectlite.Value).IsNil", "(internal/reflectlite.Value).Elem", "(internal/reflectlite.Value).Set", "internal/abi.NoEscape", "internal/bytealg.MakeNoZero"], unfollowed := true, recurses := true, named := ["unicode/utf8.first", "unicode/utf8.acceptRanges", "internal/bytealg.MaxLen", "latiner/fber.errFilter", "errors.errorType", "latiner/tlv.errNode", "latiner/size.errSize", "latiner/size.errShort", "latiner/size.errForm", "latiner/tlv.errShort", "latiner/tlv.errForm", "latiner/tlv.errTag", "latiner/filt.errFilter"], loops := true, apart := false, laid := [("unicode/utf8.acceptRanges", laid_unicode_utf8_acceptRanges), ("errors.errorType", laid_errors_errorType), ("latiner/size.errShort", laid_latiner_size_errShort), ("latiner/size.errForm", laid_latiner_size_errForm), ("latiner/size.errSize", laid_latiner_size_errSize), ("latiner/tlv.errShort", laid_latiner_tlv_errShort), ("latiner/tlv.errForm", laid_latiner_tlv_errForm), ("latiner/tlv.errTag", laid_latiner_tlv_errTag), ("latiner/tlv.errNode", laid_latiner_tlv_errNode), ("latiner/filt.errFilter", laid_latiner_filt_errFilter), ("latiner/fber.errFilter", laid_latiner_fber_errFilter), ("unicode/utf8.first", laid_unicode_utf8_first)], narrowed := true }
def FberSetsUptoSaid : Prop := fberSetsUptoRow.holds Tryz.pinned (OpenSpec.upto fberSetsSpec)

/-- 'latinerlaw09.FberNots', WHERE WHAT IT READS IS OF BULK AT MOST 1048576: true; the input reads as it did. -/
def fberNotsUptoRow : OpenClaim := { program := "ytiafggoaedifdaagreatdoor", sum := "23df0872406890a342818f5b59acd7d2674b353b6b561f4ccb5bc714ec8623f1", func := "latiner/latinerlaw09.FberNots", spec := "fberNots", inPlace := ["internal/bytealg.CountString", "internal/bytealg.IndexByteString", "internal/bytealg.IndexString", "internal/reflectlite.TypeOf", "internal/reflectlite.ValueOf", "(internal/reflectlite.Value).Type", "(internal/reflectlite.Value).IsNil", "(internal/reflectlite.Value).Elem", "(internal/reflectlite.Value).Set", "internal/abi.NoEscape", "internal/bytealg.MakeNoZero"], unfollowed := true, recurses := true, named := ["unicode/utf8.first", "unicode/utf8.acceptRanges", "internal/bytealg.MaxLen", "latiner/fber.errFilter", "errors.errorType", "latiner/tlv.errNode", "latiner/size.errSize", "latiner/size.errShort", "latiner/size.errForm", "latiner/tlv.errShort", "latiner/tlv.errForm", "latiner/tlv.errTag", "latiner/filt.errFilter"], apart := false, laid := [("unicode/utf8.acceptRanges", laid_unicode_utf8_acceptRanges), ("errors.errorType", laid_errors_errorType), ("latiner/size.errShort", laid_latiner_size_errShort), ("latiner/size.errForm", laid_latiner_size_errForm), ("latiner/size.errSize", laid_latiner_size_errSize), ("latiner/tlv.errShort", laid_latiner_tlv_errShort), ("latiner/tlv.errForm", laid_latiner_tlv_errForm), ("latiner/tlv.errTag", laid_latiner_tlv_errTag), ("latiner/tlv.errNode", laid_latiner_tlv_errNode), ("latiner/filt.errFilter", laid_latiner_filt_errFilter), ("latiner/fber.errFilter", laid_latiner_fber_errFilter), ("unicode/utf8.first", laid_unicode_utf8_first)], narrowed := true }
def FberNotsUptoSaid : Prop := fberNotsUptoRow.holds Tryz.pinned (OpenSpec.upto fberNotsSpec)

/-- 'latinerlaw09.FberBack', WHERE WHAT IT READS IS OF BULK AT MOST 1048576: true; the input reads as it did. -/
def fberBackUptoRow : OpenClaim := { program := "ytiafggoaedifdaagreatdoor", sum := "23df0872406890a342818f5b59acd7d2674b353b6b561f4ccb5bc714ec8623f1", func := "latiner/latinerlaw09.FberBack", spec := "fberBack", inPlace := ["internal/bytealg.CountString", "internal/bytealg.IndexByteString", "internal/bytealg.IndexString", "internal/reflectlite.TypeOf", "internal/reflectlite.ValueOf", "(internal/reflectlite.Value).Type", "(internal/reflectlite.Value).IsNil", "(internal/reflectlite.Value).Elem", "(internal/reflectlite.Value).Set", "internal/abi.NoEscape", "internal/bytealg.MakeNoZero"], unfollowed := true, recurses := true, named := ["unicode/utf8.first", "unicode/utf8.acceptRanges", "internal/bytealg.MaxLen", "latiner/fber.errFilter", "errors.errorType", "latiner/tlv.errNode", "latiner/size.errSize", "latiner/size.errShort", "latiner/size.errForm", "latiner/tlv.errShort", "latiner/tlv.errForm", "latiner/tlv.errTag", "latiner/filt.errFilter"], loops := true, apart := false, laid := [("unicode/utf8.acceptRanges", laid_unicode_utf8_acceptRanges), ("errors.errorType", laid_errors_errorType), ("latiner/size.errShort", laid_latiner_size_errShort), ("latiner/size.errForm", laid_latiner_size_errForm), ("latiner/size.errSize", laid_latiner_size_errSize), ("latiner/tlv.errShort", laid_latiner_tlv_errShort), ("latiner/tlv.errForm", laid_latiner_tlv_errForm), ("latiner/tlv.errTag", laid_latiner_tlv_errTag), ("latiner/tlv.errNode", laid_latiner_tlv_errNode), ("latiner/filt.errFilter", laid_latiner_filt_errFilter), ("latiner/fber.errFilter", laid_latiner_fber_errFilter), ("unicode/utf8.first", laid_unicode_utf8_first)], narrowed := true }
def FberBackUptoSaid : Prop := fberBackUptoRow.holds Tryz.pinned (OpenSpec.upto fberBackSpec)

/-- 'latinerlaw09.FberApart', WHERE WHAT IT READS IS OF BULK AT MOST 1048576: true; the input reads as it did. -/
def fberApartUptoRow : OpenClaim := { program := "ytiafggoaedifdaagreatdoor", sum := "23df0872406890a342818f5b59acd7d2674b353b6b561f4ccb5bc714ec8623f1", func := "latiner/latinerlaw09.FberApart", spec := "fberApart", inPlace := ["internal/bytealg.CountString", "internal/bytealg.IndexByteString", "internal/bytealg.IndexString", "internal/reflectlite.TypeOf", "internal/reflectlite.ValueOf", "(internal/reflectlite.Value).Type", "(internal/reflectlite.Value).IsNil", "(internal/reflectlite.Value).Elem", "(internal/reflectlite.Value).Set", "internal/abi.NoEscape", "internal/bytealg.MakeNoZero"], unfollowed := true, recurses := true, named := ["unicode/utf8.first", "unicode/utf8.acceptRanges", "internal/bytealg.MaxLen", "latiner/fber.errFilter", "errors.errorType", "latiner/tlv.errNode", "latiner/size.errSize", "latiner/size.errShort", "latiner/size.errForm", "latiner/tlv.errShort", "latiner/tlv.errForm", "latiner/tlv.errTag", "latiner/filt.errFilter"], loops := true, apart := false, laid := [("unicode/utf8.acceptRanges", laid_unicode_utf8_acceptRanges), ("errors.errorType", laid_errors_errorType), ("latiner/size.errShort", laid_latiner_size_errShort), ("latiner/size.errForm", laid_latiner_size_errForm), ("latiner/size.errSize", laid_latiner_size_errSize), ("latiner/tlv.errShort", laid_latiner_tlv_errShort), ("latiner/tlv.errForm", laid_latiner_tlv_errForm), ("latiner/tlv.errTag", laid_latiner_tlv_errTag), ("latiner/tlv.errNode", laid_latiner_tlv_errNode), ("latiner/filt.errFilter", laid_latiner_filt_errFilter), ("latiner/fber.errFilter", laid_latiner_fber_errFilter), ("unicode/utf8.first", laid_unicode_utf8_first)], narrowed := true }
def FberApartUptoSaid : Prop := fberApartUptoRow.holds Tryz.pinned (OpenSpec.upto fberApartSpec)

/-- 'latinerlaw09.FberTexts', WHERE WHAT IT READS IS OF BULK AT MOST 1048576: true; the input reads as it did. -/
def fberTextsUptoRow : OpenClaim := { program := "ytiafggoaedifdaagreatdoor", sum := "23df0872406890a342818f5b59acd7d2674b353b6b561f4ccb5bc714ec8623f1", func := "latiner/latinerlaw09.FberTexts", spec := "fberTexts", inPlace := ["internal/bytealg.CountString", "internal/bytealg.IndexByteString", "internal/bytealg.IndexString", "internal/reflectlite.TypeOf", "internal/reflectlite.ValueOf", "(internal/reflectlite.Value).Type", "(internal/reflectlite.Value).IsNil", "(internal/reflectlite.Value).Elem", "(internal/reflectlite.Value).Set", "internal/abi.NoEscape", "internal/bytealg.MakeNoZero"], unfollowed := true, recurses := true, named := ["unicode/utf8.first", "unicode/utf8.acceptRanges", "internal/bytealg.MaxLen", "latiner/fber.errFilter", "errors.errorType", "latiner/tlv.errNode", "latiner/size.errSize", "latiner/size.errShort", "latiner/size.errForm", "latiner/tlv.errShort", "latiner/tlv.errForm", "latiner/tlv.errTag", "latiner/filt.errFilter", "latiner/code.errCode", "latiner/esc.errEscape"], apart := false, laid := [("unicode/utf8.acceptRanges", laid_unicode_utf8_acceptRanges), ("errors.errorType", laid_errors_errorType), ("latiner/size.errShort", laid_latiner_size_errShort), ("latiner/size.errForm", laid_latiner_size_errForm), ("latiner/size.errSize", laid_latiner_size_errSize), ("latiner/code.errCode", laid_latiner_code_errCode), ("latiner/tlv.errShort", laid_latiner_tlv_errShort), ("latiner/tlv.errForm", laid_latiner_tlv_errForm), ("latiner/tlv.errTag", laid_latiner_tlv_errTag), ("latiner/tlv.errNode", laid_latiner_tlv_errNode), ("latiner/esc.errEscape", laid_latiner_esc_errEscape), ("latiner/filt.errFilter", laid_latiner_filt_errFilter), ("latiner/fber.errFilter", laid_latiner_fber_errFilter), ("unicode/utf8.first", laid_unicode_utf8_first)], narrowed := true }
def FberTextsUptoSaid : Prop := fberTextsUptoRow.holds Tryz.pinned (OpenSpec.upto fberTextsSpec)

end Rows
end Go.Proofs.YtiafggoaedifdaaGreatDoor
