/-
  NARROWER THAN 'FOR EVERY INPUT', by the rows' own cells (each row's printed sentence says how): FiltTells: loops, laid · FiltBack: loops, laid · FiltWraps: loops, laid · FiltItems: laid · FiltSets: loops, laid · FiltStars: laid · FiltNames: loops, laid · FiltDigits: laid.
  DERIVED. THE GIVEN ROWS OF THIS SEAT. 8 by the template 'for every input the law returns true; each argument reads behind the call as it read before'; 0 by the template 'total and deterministic' (their statements: YtajpgigeploodaaGreatDoorTotals.lean).
  GIVEN WITH THE SEED: the statements are not yours to turn. If you find one false, say at which input.
  Laid BY PROGRAM, IN A SANDBOX (cutbox-rows.mjs): the forced cells as the released guide's own fill.sh prints them over the translation 2b9d546358b274f5… (all of the seat's roots in one cut). By AI agents, Wed Nov 11 2026. No macro, syntax, notation, axiom, sorry.
-/
import Derived.Test.YtajpgigeploodaaGreatDoorChecked
import GoSem.PinnedTables
import GoSem.Claim
import GoSem.ClaimJoined
import GoSem.ClaimMapViews
import Derived.JoinedTies
import Derived.KernelRfl
namespace Go.Proofs.YtajpgigeploodaaGreatDoor
/- THE CELL 'sum', in the pinned program and in every row, IS THE sha256 OF THE DUMP (.gsa) THAT YtajpgigeploodaaGreatDoorProg.lean LOADS. Nothing in Lean hashes anything: it is a label: what it is worth is what the hold of that sum in a sandbox is worth. -/
noncomputable def Tryz.pinned : Pinned := { name := "ytajpgigeploodaagreatdoor", sum := "2b9d546358b274f5b7b2d908f6fde0a0831bb3c39410bf2b68662032c76c6543", checked := Tryz.checked }
namespace Rows
def none {H : Type} : Left H := { results := [], args := [] }

/- WHAT THE LISTED PACKAGE-LEVEL VARIABLES READ AS WHEN THE CALL BEGINS. Each datum BY PROGRAM (the guide's laid-datum.mjs) off the statement by which the dump's own 'gosem.cut.vars' lays the variable. In a bare row this is a premise. The card (YtajpgigeploodaaGreatDoorCards.lean) ties it to the program's text. -/
def laid_unicode_utf8_acceptRanges {H : Type} : DataW H := .agg [.agg [.lit (.int .u8 128), .lit (.int .u8 191)], .agg [.lit (.int .u8 160), .lit (.int .u8 191)], .agg [.lit (.int .u8 128), .lit (.int .u8 159)], .agg [.lit (.int .u8 144), .lit (.int .u8 191)], .agg [.lit (.int .u8 128), .lit (.int .u8 143)], .agg [.lit (.int .u8 0), .lit (.int .u8 0)], .agg [.lit (.int .u8 0), .lit (.int .u8 0)], .agg [.lit (.int .u8 0), .lit (.int .u8 0)], .agg [.lit (.int .u8 0), .lit (.int .u8 0)], .agg [.lit (.int .u8 0), .lit (.int .u8 0)], .agg [.lit (.int .u8 0), .lit (.int .u8 0)], .agg [.lit (.int .u8 0), .lit (.int .u8 0)], .agg [.lit (.int .u8 0), .lit (.int .u8 0)], .agg [.lit (.int .u8 0), .lit (.int .u8 0)], .agg [.lit (.int .u8 0), .lit (.int .u8 0)], .agg [.lit (.int .u8 0), .lit (.int .u8 0)]]
def laid_errors_errorType {H : Type} : DataW H := .iface "internal/reflectlite.rtype" (.agg [.ptr (.lit (.string [101, 114, 114, 111, 114]))])
def laid_latiner_code_errCode {H : Type} : DataW H := .iface "*errors.errorString" (.ptr (.agg [.lit (.string [110, 111, 32, 99, 111, 100, 101])]))
def laid_latiner_esc_errEscape {H : Type} : DataW H := .iface "*errors.errorString" (.ptr (.agg [.lit (.string [110, 111, 32, 118, 97, 108, 117, 101])]))
def laid_latiner_filt_errFilter {H : Type} : DataW H := .iface "*errors.errorString" (.ptr (.agg [.lit (.string [110, 111, 32, 102, 105, 108, 116, 101, 114])]))
/-- One of Go's own tables, pinned by name: the form's constant. -/
def laid_unicode_utf8_first : DataW Unit := Go.Pinned.utf8First

/-- 'latinerlaw08.FiltTells': WHATEVER THE INPUT: true; the input reads as it did. -/
def filtTellsSpec : ChangeSpec := { name := "filtTells", fn := fun _ => fun
  | [d1, d2, d3] => { results := [.lit (.bool true)], args := [d1, d2, d3] }
  | _ => none }
def filtTellsRow : OpenClaim := { program := "ytajpgigeploodaagreatdoor", sum := "2b9d546358b274f5b7b2d908f6fde0a0831bb3c39410bf2b68662032c76c6543", func := "latiner/latinerlaw08.FiltTells", spec := "filtTells", inPlace := ["internal/bytealg.CountString", "internal/bytealg.IndexByteString", "internal/bytealg.IndexString", "internal/reflectlite.TypeOf", "internal/reflectlite.ValueOf", "(internal/reflectlite.Value).Type", "(internal/reflectlite.Value).IsNil", "(internal/reflectlite.Value).Elem", "(internal/reflectlite.Value).Set", "internal/abi.NoEscape"], unfollowed := true, recurses := true, named := ["unicode/utf8.first", "unicode/utf8.acceptRanges", "internal/bytealg.MaxLen", "latiner/filt.errFilter", "errors.errorType", "latiner/code.errCode", "latiner/esc.errEscape"], loops := true, apart := false, laid := [("unicode/utf8.acceptRanges", laid_unicode_utf8_acceptRanges), ("errors.errorType", laid_errors_errorType), ("latiner/code.errCode", laid_latiner_code_errCode), ("latiner/esc.errEscape", laid_latiner_esc_errEscape), ("latiner/filt.errFilter", laid_latiner_filt_errFilter), ("unicode/utf8.first", laid_unicode_utf8_first)] }
def FiltTellsSaid : Prop := filtTellsRow.holds Tryz.pinned (OpenSpec.ofChange filtTellsSpec)

/-- ITS FALSE NEIGHBOUR: 'it returns false'. Refute it at one input. -/
def filtTellsWrong : ChangeSpec := { name := "filtTells", fn := fun _ => fun
  | [d1, d2, d3] => { results := [.lit (.bool false)], args := [d1, d2, d3] }
  | _ => none }
def FiltTellsWrongFalsely : Prop := filtTellsRow.holds Tryz.pinned (OpenSpec.ofChange filtTellsWrong)

/-- 'latinerlaw08.FiltBack': WHATEVER THE INPUT: true; the input reads as it did. -/
def filtBackSpec : ChangeSpec := { name := "filtBack", fn := fun _ => fun
  | [d1, d2] => { results := [.lit (.bool true)], args := [d1, d2] }
  | _ => none }
def filtBackRow : OpenClaim := { program := "ytajpgigeploodaagreatdoor", sum := "2b9d546358b274f5b7b2d908f6fde0a0831bb3c39410bf2b68662032c76c6543", func := "latiner/latinerlaw08.FiltBack", spec := "filtBack", inPlace := ["internal/bytealg.CountString", "internal/bytealg.IndexByteString", "internal/bytealg.IndexString", "internal/reflectlite.TypeOf", "internal/reflectlite.ValueOf", "(internal/reflectlite.Value).Type", "(internal/reflectlite.Value).IsNil", "(internal/reflectlite.Value).Elem", "(internal/reflectlite.Value).Set", "internal/abi.NoEscape"], unfollowed := true, recurses := true, named := ["unicode/utf8.first", "unicode/utf8.acceptRanges", "internal/bytealg.MaxLen", "latiner/filt.errFilter", "errors.errorType", "latiner/code.errCode", "latiner/esc.errEscape"], loops := true, apart := false, laid := [("unicode/utf8.acceptRanges", laid_unicode_utf8_acceptRanges), ("errors.errorType", laid_errors_errorType), ("latiner/code.errCode", laid_latiner_code_errCode), ("latiner/esc.errEscape", laid_latiner_esc_errEscape), ("latiner/filt.errFilter", laid_latiner_filt_errFilter), ("unicode/utf8.first", laid_unicode_utf8_first)] }
def FiltBackSaid : Prop := filtBackRow.holds Tryz.pinned (OpenSpec.ofChange filtBackSpec)

/-- ITS FALSE NEIGHBOUR: 'it returns false'. Refute it at one input. -/
def filtBackWrong : ChangeSpec := { name := "filtBack", fn := fun _ => fun
  | [d1, d2] => { results := [.lit (.bool false)], args := [d1, d2] }
  | _ => none }
def FiltBackWrongFalsely : Prop := filtBackRow.holds Tryz.pinned (OpenSpec.ofChange filtBackWrong)

/-- 'latinerlaw08.FiltWraps': WHATEVER THE INPUT: true; the input reads as it did. -/
def filtWrapsSpec : ChangeSpec := { name := "filtWraps", fn := fun _ => fun
  | [d] => { results := [.lit (.bool true)], args := [d] }
  | _ => none }
def filtWrapsRow : OpenClaim := { program := "ytajpgigeploodaagreatdoor", sum := "2b9d546358b274f5b7b2d908f6fde0a0831bb3c39410bf2b68662032c76c6543", func := "latiner/latinerlaw08.FiltWraps", spec := "filtWraps", inPlace := ["internal/bytealg.CountString", "internal/bytealg.IndexByteString", "internal/bytealg.IndexString", "internal/reflectlite.TypeOf", "internal/reflectlite.ValueOf", "(internal/reflectlite.Value).Type", "(internal/reflectlite.Value).IsNil", "(internal/reflectlite.Value).Elem", "(internal/reflectlite.Value).Set", "internal/abi.NoEscape"], unfollowed := true, recurses := true, named := ["unicode/utf8.first", "unicode/utf8.acceptRanges", "internal/bytealg.MaxLen", "latiner/filt.errFilter", "errors.errorType", "latiner/code.errCode", "latiner/esc.errEscape"], loops := true, apart := false, laid := [("unicode/utf8.acceptRanges", laid_unicode_utf8_acceptRanges), ("errors.errorType", laid_errors_errorType), ("latiner/code.errCode", laid_latiner_code_errCode), ("latiner/esc.errEscape", laid_latiner_esc_errEscape), ("latiner/filt.errFilter", laid_latiner_filt_errFilter), ("unicode/utf8.first", laid_unicode_utf8_first)] }
def FiltWrapsSaid : Prop := filtWrapsRow.holds Tryz.pinned (OpenSpec.ofChange filtWrapsSpec)

/-- ITS FALSE NEIGHBOUR: 'it returns false'. Refute it at one input. -/
def filtWrapsWrong : ChangeSpec := { name := "filtWraps", fn := fun _ => fun
  | [d] => { results := [.lit (.bool false)], args := [d] }
  | _ => none }
def FiltWrapsWrongFalsely : Prop := filtWrapsRow.holds Tryz.pinned (OpenSpec.ofChange filtWrapsWrong)

/-- 'latinerlaw08.FiltItems': WHATEVER THE INPUT: true; the input reads as it did. -/
def filtItemsSpec : ChangeSpec := { name := "filtItems", fn := fun _ => fun
  | [d1, d2, d3] => { results := [.lit (.bool true)], args := [d1, d2, d3] }
  | _ => none }
def filtItemsRow : OpenClaim := { program := "ytajpgigeploodaagreatdoor", sum := "2b9d546358b274f5b7b2d908f6fde0a0831bb3c39410bf2b68662032c76c6543", func := "latiner/latinerlaw08.FiltItems", spec := "filtItems", inPlace := ["internal/bytealg.CountString", "internal/bytealg.IndexByteString", "internal/bytealg.IndexString", "internal/reflectlite.TypeOf", "internal/reflectlite.ValueOf", "(internal/reflectlite.Value).Type", "(internal/reflectlite.Value).IsNil", "(internal/reflectlite.Value).Elem", "(internal/reflectlite.Value).Set", "internal/abi.NoEscape"], unfollowed := true, recurses := true, named := ["unicode/utf8.first", "unicode/utf8.acceptRanges", "internal/bytealg.MaxLen", "latiner/filt.errFilter", "errors.errorType", "latiner/code.errCode", "latiner/esc.errEscape"], apart := false, laid := [("unicode/utf8.acceptRanges", laid_unicode_utf8_acceptRanges), ("errors.errorType", laid_errors_errorType), ("latiner/code.errCode", laid_latiner_code_errCode), ("latiner/esc.errEscape", laid_latiner_esc_errEscape), ("latiner/filt.errFilter", laid_latiner_filt_errFilter), ("unicode/utf8.first", laid_unicode_utf8_first)] }
def FiltItemsSaid : Prop := filtItemsRow.holds Tryz.pinned (OpenSpec.ofChange filtItemsSpec)

/-- ITS FALSE NEIGHBOUR: 'it returns false'. Refute it at one input. -/
def filtItemsWrong : ChangeSpec := { name := "filtItems", fn := fun _ => fun
  | [d1, d2, d3] => { results := [.lit (.bool false)], args := [d1, d2, d3] }
  | _ => none }
def FiltItemsWrongFalsely : Prop := filtItemsRow.holds Tryz.pinned (OpenSpec.ofChange filtItemsWrong)

/-- 'latinerlaw08.FiltSets': WHATEVER THE INPUT: true; the input reads as it did. -/
def filtSetsSpec : ChangeSpec := { name := "filtSets", fn := fun _ => fun
  | [d1, d2, d3] => { results := [.lit (.bool true)], args := [d1, d2, d3] }
  | _ => none }
def filtSetsRow : OpenClaim := { program := "ytajpgigeploodaagreatdoor", sum := "2b9d546358b274f5b7b2d908f6fde0a0831bb3c39410bf2b68662032c76c6543", func := "latiner/latinerlaw08.FiltSets", spec := "filtSets", inPlace := ["internal/bytealg.CountString", "internal/bytealg.IndexByteString", "internal/bytealg.IndexString", "internal/reflectlite.TypeOf", "internal/reflectlite.ValueOf", "(internal/reflectlite.Value).Type", "(internal/reflectlite.Value).IsNil", "(internal/reflectlite.Value).Elem", "(internal/reflectlite.Value).Set", "internal/abi.NoEscape"], unfollowed := true, recurses := true, named := ["unicode/utf8.first", "unicode/utf8.acceptRanges", "internal/bytealg.MaxLen", "latiner/filt.errFilter", "errors.errorType", "latiner/code.errCode", "latiner/esc.errEscape"], loops := true, apart := false, laid := [("unicode/utf8.acceptRanges", laid_unicode_utf8_acceptRanges), ("errors.errorType", laid_errors_errorType), ("latiner/code.errCode", laid_latiner_code_errCode), ("latiner/esc.errEscape", laid_latiner_esc_errEscape), ("latiner/filt.errFilter", laid_latiner_filt_errFilter), ("unicode/utf8.first", laid_unicode_utf8_first)] }
def FiltSetsSaid : Prop := filtSetsRow.holds Tryz.pinned (OpenSpec.ofChange filtSetsSpec)

/-- ITS FALSE NEIGHBOUR: 'it returns false'. Refute it at one input. -/
def filtSetsWrong : ChangeSpec := { name := "filtSets", fn := fun _ => fun
  | [d1, d2, d3] => { results := [.lit (.bool false)], args := [d1, d2, d3] }
  | _ => none }
def FiltSetsWrongFalsely : Prop := filtSetsRow.holds Tryz.pinned (OpenSpec.ofChange filtSetsWrong)

/-- 'latinerlaw08.FiltStars': WHATEVER THE INPUT: true; the input reads as it did. -/
def filtStarsSpec : ChangeSpec := { name := "filtStars", fn := fun _ => fun
  | [d1, d2, d3] => { results := [.lit (.bool true)], args := [d1, d2, d3] }
  | _ => none }
def filtStarsRow : OpenClaim := { program := "ytajpgigeploodaagreatdoor", sum := "2b9d546358b274f5b7b2d908f6fde0a0831bb3c39410bf2b68662032c76c6543", func := "latiner/latinerlaw08.FiltStars", spec := "filtStars", inPlace := ["internal/bytealg.CountString", "internal/bytealg.IndexByteString", "internal/bytealg.IndexString", "internal/reflectlite.TypeOf", "internal/reflectlite.ValueOf", "(internal/reflectlite.Value).Type", "(internal/reflectlite.Value).IsNil", "(internal/reflectlite.Value).Elem", "(internal/reflectlite.Value).Set", "internal/abi.NoEscape"], unfollowed := true, recurses := true, named := ["unicode/utf8.first", "unicode/utf8.acceptRanges", "internal/bytealg.MaxLen", "latiner/filt.errFilter", "errors.errorType", "latiner/code.errCode", "latiner/esc.errEscape"], apart := false, laid := [("unicode/utf8.acceptRanges", laid_unicode_utf8_acceptRanges), ("errors.errorType", laid_errors_errorType), ("latiner/code.errCode", laid_latiner_code_errCode), ("latiner/esc.errEscape", laid_latiner_esc_errEscape), ("latiner/filt.errFilter", laid_latiner_filt_errFilter), ("unicode/utf8.first", laid_unicode_utf8_first)] }
def FiltStarsSaid : Prop := filtStarsRow.holds Tryz.pinned (OpenSpec.ofChange filtStarsSpec)

/-- ITS FALSE NEIGHBOUR: 'it returns false'. Refute it at one input. -/
def filtStarsWrong : ChangeSpec := { name := "filtStars", fn := fun _ => fun
  | [d1, d2, d3] => { results := [.lit (.bool false)], args := [d1, d2, d3] }
  | _ => none }
def FiltStarsWrongFalsely : Prop := filtStarsRow.holds Tryz.pinned (OpenSpec.ofChange filtStarsWrong)

/-- 'latinerlaw08.FiltNames': WHATEVER THE INPUT: true; the input reads as it did. -/
def filtNamesSpec : ChangeSpec := { name := "filtNames", fn := fun _ => fun
  | [d] => { results := [.lit (.bool true)], args := [d] }
  | _ => none }
def filtNamesRow : OpenClaim := { program := "ytajpgigeploodaagreatdoor", sum := "2b9d546358b274f5b7b2d908f6fde0a0831bb3c39410bf2b68662032c76c6543", func := "latiner/latinerlaw08.FiltNames", spec := "filtNames", inPlace := ["internal/bytealg.CountString", "internal/bytealg.IndexByteString", "internal/bytealg.IndexString", "internal/reflectlite.TypeOf", "internal/reflectlite.ValueOf", "(internal/reflectlite.Value).Type", "(internal/reflectlite.Value).IsNil", "(internal/reflectlite.Value).Elem", "(internal/reflectlite.Value).Set", "internal/abi.NoEscape"], unfollowed := true, recurses := true, named := ["unicode/utf8.first", "unicode/utf8.acceptRanges", "internal/bytealg.MaxLen", "latiner/filt.errFilter", "errors.errorType", "latiner/code.errCode", "latiner/esc.errEscape"], loops := true, apart := false, laid := [("unicode/utf8.acceptRanges", laid_unicode_utf8_acceptRanges), ("errors.errorType", laid_errors_errorType), ("latiner/code.errCode", laid_latiner_code_errCode), ("latiner/esc.errEscape", laid_latiner_esc_errEscape), ("latiner/filt.errFilter", laid_latiner_filt_errFilter), ("unicode/utf8.first", laid_unicode_utf8_first)] }
def FiltNamesSaid : Prop := filtNamesRow.holds Tryz.pinned (OpenSpec.ofChange filtNamesSpec)

/-- ITS FALSE NEIGHBOUR: 'it returns false'. Refute it at one input. -/
def filtNamesWrong : ChangeSpec := { name := "filtNames", fn := fun _ => fun
  | [d] => { results := [.lit (.bool false)], args := [d] }
  | _ => none }
def FiltNamesWrongFalsely : Prop := filtNamesRow.holds Tryz.pinned (OpenSpec.ofChange filtNamesWrong)

/-- 'latinerlaw08.FiltDigits': WHATEVER THE INPUT: true; the input reads as it did. -/
def filtDigitsSpec : ChangeSpec := { name := "filtDigits", fn := fun _ => fun
  | [d1, d2] => { results := [.lit (.bool true)], args := [d1, d2] }
  | _ => none }
def filtDigitsRow : OpenClaim := { program := "ytajpgigeploodaagreatdoor", sum := "2b9d546358b274f5b7b2d908f6fde0a0831bb3c39410bf2b68662032c76c6543", func := "latiner/latinerlaw08.FiltDigits", spec := "filtDigits", inPlace := ["internal/bytealg.CountString", "internal/bytealg.IndexByteString", "internal/bytealg.IndexString", "internal/reflectlite.TypeOf", "internal/reflectlite.ValueOf", "(internal/reflectlite.Value).Type", "(internal/reflectlite.Value).IsNil", "(internal/reflectlite.Value).Elem", "(internal/reflectlite.Value).Set", "internal/abi.NoEscape"], unfollowed := true, recurses := true, named := ["unicode/utf8.first", "unicode/utf8.acceptRanges", "internal/bytealg.MaxLen", "latiner/filt.errFilter", "errors.errorType", "latiner/code.errCode", "latiner/esc.errEscape"], apart := false, laid := [("unicode/utf8.acceptRanges", laid_unicode_utf8_acceptRanges), ("errors.errorType", laid_errors_errorType), ("latiner/code.errCode", laid_latiner_code_errCode), ("latiner/esc.errEscape", laid_latiner_esc_errEscape), ("latiner/filt.errFilter", laid_latiner_filt_errFilter), ("unicode/utf8.first", laid_unicode_utf8_first)] }
def FiltDigitsSaid : Prop := filtDigitsRow.holds Tryz.pinned (OpenSpec.ofChange filtDigitsSpec)

/-- ITS FALSE NEIGHBOUR: 'it returns false'. Refute it at one input. -/
def filtDigitsWrong : ChangeSpec := { name := "filtDigits", fn := fun _ => fun
  | [d1, d2] => { results := [.lit (.bool false)], args := [d1, d2] }
  | _ => none }
def FiltDigitsWrongFalsely : Prop := filtDigitsRow.holds Tryz.pinned (OpenSpec.ofChange filtDigitsWrong)

/- THE SECOND FORM. 'bulk': how many values and letters a reading holds, each counted each time it is reached (what is shared counts as often as it is met; a slice's spare places count too). A statement '..UptoSaid' is the law's where the arguments, and the package variables that the reading takes, are together of bulk at most 1048576: NARROWER than '..Said'. Prove '..Said' where nothing that the law and all that it calls make is longer than what came in: it says more and counts as full. Else prove '..UptoSaid'. A law counts once. -/
mutual
def uptoBulk {H : Type} : DataW H → Nat
  | .lit (.string bytes) => bytes.length + 1
  | .lit _ => 1
  | .nil => 1
  | .ptr d => uptoBulk d + 1
  | .slice elems spare => uptoBulkAll elems + uptoBulkAll spare + 1
  | .agg parts => uptoBulkAll parts + 1
  | .iface _ d => uptoBulk d + 1
  | .map entries => uptoBulkEntries entries + 1
  | .held _ => 1
def uptoBulkAll {H : Type} : List (DataW H) → Nat
  | [] => 0
  | d :: r => uptoBulk d + uptoBulkAll r
def uptoBulkEntries {H : Type} : List (Lit × DataW H) → Nat
  | [] => 0
  | x :: r => uptoBulkEntry x + uptoBulkEntries r
def uptoBulkEntry {H : Type} : Lit × DataW H → Nat
  | (.string bytes, d) => bytes.length + uptoBulk d + 1
  | (_, d) => uptoBulk d + 1
 end
def uptoSmall : (H : Type) → List (DataW H) → Bool := fun _ ds => decide (uptoBulkAll ds ≤ 1048576)
def OpenSpec.upto (s : _root_.Go.ChangeSpec) : _root_.Go.OpenSpec := { _root_.Go.OpenSpec.ofChange s with cond := some uptoSmall }

/-- 'latinerlaw08.FiltTells', WHERE WHAT IT READS IS OF BULK AT MOST 1048576: true; the input reads as it did. -/
def filtTellsUptoRow : OpenClaim := { program := "ytajpgigeploodaagreatdoor", sum := "2b9d546358b274f5b7b2d908f6fde0a0831bb3c39410bf2b68662032c76c6543", func := "latiner/latinerlaw08.FiltTells", spec := "filtTells", inPlace := ["internal/bytealg.CountString", "internal/bytealg.IndexByteString", "internal/bytealg.IndexString", "internal/reflectlite.TypeOf", "internal/reflectlite.ValueOf", "(internal/reflectlite.Value).Type", "(internal/reflectlite.Value).IsNil", "(internal/reflectlite.Value).Elem", "(internal/reflectlite.Value).Set", "internal/abi.NoEscape"], unfollowed := true, recurses := true, named := ["unicode/utf8.first", "unicode/utf8.acceptRanges", "internal/bytealg.MaxLen", "latiner/filt.errFilter", "errors.errorType", "latiner/code.errCode", "latiner/esc.errEscape"], loops := true, apart := false, laid := [("unicode/utf8.acceptRanges", laid_unicode_utf8_acceptRanges), ("errors.errorType", laid_errors_errorType), ("latiner/code.errCode", laid_latiner_code_errCode), ("latiner/esc.errEscape", laid_latiner_esc_errEscape), ("latiner/filt.errFilter", laid_latiner_filt_errFilter), ("unicode/utf8.first", laid_unicode_utf8_first)], narrowed := true }
def FiltTellsUptoSaid : Prop := filtTellsUptoRow.holds Tryz.pinned (OpenSpec.upto filtTellsSpec)

/-- 'latinerlaw08.FiltBack', WHERE WHAT IT READS IS OF BULK AT MOST 1048576: true; the input reads as it did. -/
def filtBackUptoRow : OpenClaim := { program := "ytajpgigeploodaagreatdoor", sum := "2b9d546358b274f5b7b2d908f6fde0a0831bb3c39410bf2b68662032c76c6543", func := "latiner/latinerlaw08.FiltBack", spec := "filtBack", inPlace := ["internal/bytealg.CountString", "internal/bytealg.IndexByteString", "internal/bytealg.IndexString", "internal/reflectlite.TypeOf", "internal/reflectlite.ValueOf", "(internal/reflectlite.Value).Type", "(internal/reflectlite.Value).IsNil", "(internal/reflectlite.Value).Elem", "(internal/reflectlite.Value).Set", "internal/abi.NoEscape"], unfollowed := true, recurses := true, named := ["unicode/utf8.first", "unicode/utf8.acceptRanges", "internal/bytealg.MaxLen", "latiner/filt.errFilter", "errors.errorType", "latiner/code.errCode", "latiner/esc.errEscape"], loops := true, apart := false, laid := [("unicode/utf8.acceptRanges", laid_unicode_utf8_acceptRanges), ("errors.errorType", laid_errors_errorType), ("latiner/code.errCode", laid_latiner_code_errCode), ("latiner/esc.errEscape", laid_latiner_esc_errEscape), ("latiner/filt.errFilter", laid_latiner_filt_errFilter), ("unicode/utf8.first", laid_unicode_utf8_first)], narrowed := true }
def FiltBackUptoSaid : Prop := filtBackUptoRow.holds Tryz.pinned (OpenSpec.upto filtBackSpec)

/-- 'latinerlaw08.FiltWraps', WHERE WHAT IT READS IS OF BULK AT MOST 1048576: true; the input reads as it did. -/
def filtWrapsUptoRow : OpenClaim := { program := "ytajpgigeploodaagreatdoor", sum := "2b9d546358b274f5b7b2d908f6fde0a0831bb3c39410bf2b68662032c76c6543", func := "latiner/latinerlaw08.FiltWraps", spec := "filtWraps", inPlace := ["internal/bytealg.CountString", "internal/bytealg.IndexByteString", "internal/bytealg.IndexString", "internal/reflectlite.TypeOf", "internal/reflectlite.ValueOf", "(internal/reflectlite.Value).Type", "(internal/reflectlite.Value).IsNil", "(internal/reflectlite.Value).Elem", "(internal/reflectlite.Value).Set", "internal/abi.NoEscape"], unfollowed := true, recurses := true, named := ["unicode/utf8.first", "unicode/utf8.acceptRanges", "internal/bytealg.MaxLen", "latiner/filt.errFilter", "errors.errorType", "latiner/code.errCode", "latiner/esc.errEscape"], loops := true, apart := false, laid := [("unicode/utf8.acceptRanges", laid_unicode_utf8_acceptRanges), ("errors.errorType", laid_errors_errorType), ("latiner/code.errCode", laid_latiner_code_errCode), ("latiner/esc.errEscape", laid_latiner_esc_errEscape), ("latiner/filt.errFilter", laid_latiner_filt_errFilter), ("unicode/utf8.first", laid_unicode_utf8_first)], narrowed := true }
def FiltWrapsUptoSaid : Prop := filtWrapsUptoRow.holds Tryz.pinned (OpenSpec.upto filtWrapsSpec)

/-- 'latinerlaw08.FiltItems', WHERE WHAT IT READS IS OF BULK AT MOST 1048576: true; the input reads as it did. -/
def filtItemsUptoRow : OpenClaim := { program := "ytajpgigeploodaagreatdoor", sum := "2b9d546358b274f5b7b2d908f6fde0a0831bb3c39410bf2b68662032c76c6543", func := "latiner/latinerlaw08.FiltItems", spec := "filtItems", inPlace := ["internal/bytealg.CountString", "internal/bytealg.IndexByteString", "internal/bytealg.IndexString", "internal/reflectlite.TypeOf", "internal/reflectlite.ValueOf", "(internal/reflectlite.Value).Type", "(internal/reflectlite.Value).IsNil", "(internal/reflectlite.Value).Elem", "(internal/reflectlite.Value).Set", "internal/abi.NoEscape"], unfollowed := true, recurses := true, named := ["unicode/utf8.first", "unicode/utf8.acceptRanges", "internal/bytealg.MaxLen", "latiner/filt.errFilter", "errors.errorType", "latiner/code.errCode", "latiner/esc.errEscape"], apart := false, laid := [("unicode/utf8.acceptRanges", laid_unicode_utf8_acceptRanges), ("errors.errorType", laid_errors_errorType), ("latiner/code.errCode", laid_latiner_code_errCode), ("latiner/esc.errEscape", laid_latiner_esc_errEscape), ("latiner/filt.errFilter", laid_latiner_filt_errFilter), ("unicode/utf8.first", laid_unicode_utf8_first)], narrowed := true }
def FiltItemsUptoSaid : Prop := filtItemsUptoRow.holds Tryz.pinned (OpenSpec.upto filtItemsSpec)

/-- 'latinerlaw08.FiltSets', WHERE WHAT IT READS IS OF BULK AT MOST 1048576: true; the input reads as it did. -/
def filtSetsUptoRow : OpenClaim := { program := "ytajpgigeploodaagreatdoor", sum := "2b9d546358b274f5b7b2d908f6fde0a0831bb3c39410bf2b68662032c76c6543", func := "latiner/latinerlaw08.FiltSets", spec := "filtSets", inPlace := ["internal/bytealg.CountString", "internal/bytealg.IndexByteString", "internal/bytealg.IndexString", "internal/reflectlite.TypeOf", "internal/reflectlite.ValueOf", "(internal/reflectlite.Value).Type", "(internal/reflectlite.Value).IsNil", "(internal/reflectlite.Value).Elem", "(internal/reflectlite.Value).Set", "internal/abi.NoEscape"], unfollowed := true, recurses := true, named := ["unicode/utf8.first", "unicode/utf8.acceptRanges", "internal/bytealg.MaxLen", "latiner/filt.errFilter", "errors.errorType", "latiner/code.errCode", "latiner/esc.errEscape"], loops := true, apart := false, laid := [("unicode/utf8.acceptRanges", laid_unicode_utf8_acceptRanges), ("errors.errorType", laid_errors_errorType), ("latiner/code.errCode", laid_latiner_code_errCode), ("latiner/esc.errEscape", laid_latiner_esc_errEscape), ("latiner/filt.errFilter", laid_latiner_filt_errFilter), ("unicode/utf8.first", laid_unicode_utf8_first)], narrowed := true }
def FiltSetsUptoSaid : Prop := filtSetsUptoRow.holds Tryz.pinned (OpenSpec.upto filtSetsSpec)

/-- 'latinerlaw08.FiltStars', WHERE WHAT IT READS IS OF BULK AT MOST 1048576: true; the input reads as it did. -/
def filtStarsUptoRow : OpenClaim := { program := "ytajpgigeploodaagreatdoor", sum := "2b9d546358b274f5b7b2d908f6fde0a0831bb3c39410bf2b68662032c76c6543", func := "latiner/latinerlaw08.FiltStars", spec := "filtStars", inPlace := ["internal/bytealg.CountString", "internal/bytealg.IndexByteString", "internal/bytealg.IndexString", "internal/reflectlite.TypeOf", "internal/reflectlite.ValueOf", "(internal/reflectlite.Value).Type", "(internal/reflectlite.Value).IsNil", "(internal/reflectlite.Value).Elem", "(internal/reflectlite.Value).Set", "internal/abi.NoEscape"], unfollowed := true, recurses := true, named := ["unicode/utf8.first", "unicode/utf8.acceptRanges", "internal/bytealg.MaxLen", "latiner/filt.errFilter", "errors.errorType", "latiner/code.errCode", "latiner/esc.errEscape"], apart := false, laid := [("unicode/utf8.acceptRanges", laid_unicode_utf8_acceptRanges), ("errors.errorType", laid_errors_errorType), ("latiner/code.errCode", laid_latiner_code_errCode), ("latiner/esc.errEscape", laid_latiner_esc_errEscape), ("latiner/filt.errFilter", laid_latiner_filt_errFilter), ("unicode/utf8.first", laid_unicode_utf8_first)], narrowed := true }
def FiltStarsUptoSaid : Prop := filtStarsUptoRow.holds Tryz.pinned (OpenSpec.upto filtStarsSpec)

/-- 'latinerlaw08.FiltNames', WHERE WHAT IT READS IS OF BULK AT MOST 1048576: true; the input reads as it did. -/
def filtNamesUptoRow : OpenClaim := { program := "ytajpgigeploodaagreatdoor", sum := "2b9d546358b274f5b7b2d908f6fde0a0831bb3c39410bf2b68662032c76c6543", func := "latiner/latinerlaw08.FiltNames", spec := "filtNames", inPlace := ["internal/bytealg.CountString", "internal/bytealg.IndexByteString", "internal/bytealg.IndexString", "internal/reflectlite.TypeOf", "internal/reflectlite.ValueOf", "(internal/reflectlite.Value).Type", "(internal/reflectlite.Value).IsNil", "(internal/reflectlite.Value).Elem", "(internal/reflectlite.Value).Set", "internal/abi.NoEscape"], unfollowed := true, recurses := true, named := ["unicode/utf8.first", "unicode/utf8.acceptRanges", "internal/bytealg.MaxLen", "latiner/filt.errFilter", "errors.errorType", "latiner/code.errCode", "latiner/esc.errEscape"], loops := true, apart := false, laid := [("unicode/utf8.acceptRanges", laid_unicode_utf8_acceptRanges), ("errors.errorType", laid_errors_errorType), ("latiner/code.errCode", laid_latiner_code_errCode), ("latiner/esc.errEscape", laid_latiner_esc_errEscape), ("latiner/filt.errFilter", laid_latiner_filt_errFilter), ("unicode/utf8.first", laid_unicode_utf8_first)], narrowed := true }
def FiltNamesUptoSaid : Prop := filtNamesUptoRow.holds Tryz.pinned (OpenSpec.upto filtNamesSpec)

/-- 'latinerlaw08.FiltDigits', WHERE WHAT IT READS IS OF BULK AT MOST 1048576: true; the input reads as it did. -/
def filtDigitsUptoRow : OpenClaim := { program := "ytajpgigeploodaagreatdoor", sum := "2b9d546358b274f5b7b2d908f6fde0a0831bb3c39410bf2b68662032c76c6543", func := "latiner/latinerlaw08.FiltDigits", spec := "filtDigits", inPlace := ["internal/bytealg.CountString", "internal/bytealg.IndexByteString", "internal/bytealg.IndexString", "internal/reflectlite.TypeOf", "internal/reflectlite.ValueOf", "(internal/reflectlite.Value).Type", "(internal/reflectlite.Value).IsNil", "(internal/reflectlite.Value).Elem", "(internal/reflectlite.Value).Set", "internal/abi.NoEscape"], unfollowed := true, recurses := true, named := ["unicode/utf8.first", "unicode/utf8.acceptRanges", "internal/bytealg.MaxLen", "latiner/filt.errFilter", "errors.errorType", "latiner/code.errCode", "latiner/esc.errEscape"], apart := false, laid := [("unicode/utf8.acceptRanges", laid_unicode_utf8_acceptRanges), ("errors.errorType", laid_errors_errorType), ("latiner/code.errCode", laid_latiner_code_errCode), ("latiner/esc.errEscape", laid_latiner_esc_errEscape), ("latiner/filt.errFilter", laid_latiner_filt_errFilter), ("unicode/utf8.first", laid_unicode_utf8_first)], narrowed := true }
def FiltDigitsUptoSaid : Prop := filtDigitsUptoRow.holds Tryz.pinned (OpenSpec.upto filtDigitsSpec)

end Rows
end Go.Proofs.YtajpgigeploodaaGreatDoor
