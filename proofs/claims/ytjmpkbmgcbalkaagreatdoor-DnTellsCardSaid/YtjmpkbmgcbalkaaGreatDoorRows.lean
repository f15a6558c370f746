/-
  NARROWER THAN 'FOR EVERY INPUT', by the rows' own cells (each row's printed sentence says how): DnTells: laid · DnBack: laid · DnUnder: laid · DnJoins: laid · DnParents: laid · DnValues: laid · DnDigits: laid.
  DERIVED. THE GIVEN ROWS OF THIS SEAT. 7 by the template 'for every input the law returns true; each argument reads behind the call as it read before'; 0 by the template 'total and deterministic' (their statements: YtjmpkbmgcbalkaaGreatDoorTotals.lean).
  GIVEN WITH THE SEED: the statements are not yours to turn. If you find one false, say at which input.
  Laid BY PROGRAM, IN A SANDBOX (cutbox-rows.mjs): the forced cells as the released guide's own fill.sh prints them over the translation 78590d625a39c793… (all of the seat's roots in one cut). By AI agents, Wed Nov 11 2026. No macro, syntax, notation, axiom, sorry.
-/
import Derived.Test.YtjmpkbmgcbalkaaGreatDoorChecked
import GoSem.PinnedTables
import GoSem.Claim
import GoSem.ClaimJoined
import GoSem.ClaimMapViews
import Derived.JoinedTies
import Derived.KernelRfl
namespace Go.Proofs.YtjmpkbmgcbalkaaGreatDoor
/- THE CELL 'sum', in the pinned program and in every row, IS THE sha256 OF THE DUMP (.gsa) THAT YtjmpkbmgcbalkaaGreatDoorProg.lean LOADS. Nothing in Lean hashes anything: it is a label: what it is worth is what the hold of that sum in a sandbox is worth. -/
noncomputable def Tryz.pinned : Pinned := { name := "ytjmpkbmgcbalkaagreatdoor", sum := "78590d625a39c7934006f10124e1b18418d38982239fe3eb209aa8fee34b4236", checked := Tryz.checked }
namespace Rows
def none {H : Type} : Left H := { results := [], args := [] }

/- WHAT THE LISTED PACKAGE-LEVEL VARIABLES READ AS WHEN THE CALL BEGINS. Each datum BY PROGRAM (the guide's laid-datum.mjs) off the statement by which the dump's own 'gosem.cut.vars' lays the variable. In a bare row this is a premise. The card (YtjmpkbmgcbalkaaGreatDoorCards.lean) ties it to the program's text. -/
def laid_unicode_utf8_acceptRanges {H : Type} : DataW H := .agg [.agg [.lit (.int .u8 128), .lit (.int .u8 191)], .agg [.lit (.int .u8 160), .lit (.int .u8 191)], .agg [.lit (.int .u8 128), .lit (.int .u8 159)], .agg [.lit (.int .u8 144), .lit (.int .u8 191)], .agg [.lit (.int .u8 128), .lit (.int .u8 143)], .agg [.lit (.int .u8 0), .lit (.int .u8 0)], .agg [.lit (.int .u8 0), .lit (.int .u8 0)], .agg [.lit (.int .u8 0), .lit (.int .u8 0)], .agg [.lit (.int .u8 0), .lit (.int .u8 0)], .agg [.lit (.int .u8 0), .lit (.int .u8 0)], .agg [.lit (.int .u8 0), .lit (.int .u8 0)], .agg [.lit (.int .u8 0), .lit (.int .u8 0)], .agg [.lit (.int .u8 0), .lit (.int .u8 0)], .agg [.lit (.int .u8 0), .lit (.int .u8 0)], .agg [.lit (.int .u8 0), .lit (.int .u8 0)], .agg [.lit (.int .u8 0), .lit (.int .u8 0)]]
def laid_errors_errorType {H : Type} : DataW H := .iface "internal/reflectlite.rtype" (.agg [.ptr (.lit (.string [101, 114, 114, 111, 114]))])
def laid_latiner_code_errCode {H : Type} : DataW H := .iface "*errors.errorString" (.ptr (.agg [.lit (.string [110, 111, 32, 99, 111, 100, 101])]))
def laid_latiner_esc_errEscape {H : Type} : DataW H := .iface "*errors.errorString" (.ptr (.agg [.lit (.string [110, 111, 32, 118, 97, 108, 117, 101])]))
def laid_latiner_dn_errDn {H : Type} : DataW H := .iface "*errors.errorString" (.ptr (.agg [.lit (.string [110, 111, 32, 110, 97, 109, 101])]))
/-- One of Go's own tables, pinned by name: the form's constant. -/
def laid_unicode_utf8_first : DataW Unit := Go.Pinned.utf8First

/-- 'latinerlaw07.DnTells': WHATEVER THE INPUT: true; the input reads as it did. -/
def dnTellsSpec : ChangeSpec := { name := "dnTells", fn := fun _ => fun
  | [d1, d2, d3] => { results := [.lit (.bool true)], args := [d1, d2, d3] }
  | _ => none }
def dnTellsRow : OpenClaim := { program := "ytjmpkbmgcbalkaagreatdoor", sum := "78590d625a39c7934006f10124e1b18418d38982239fe3eb209aa8fee34b4236", func := "latiner/latinerlaw07.DnTells", spec := "dnTells", inPlace := ["internal/bytealg.IndexByteString", "internal/bytealg.IndexString", "internal/bytealg.CountString", "internal/reflectlite.TypeOf", "internal/reflectlite.ValueOf", "(internal/reflectlite.Value).Type", "(internal/reflectlite.Value).IsNil", "(internal/reflectlite.Value).Elem", "(internal/reflectlite.Value).Set", "internal/abi.NoEscape", "internal/bytealg.MakeNoZero"], unfollowed := true, recurses := true, named := ["internal/bytealg.MaxLen", "unicode/utf8.first", "unicode/utf8.acceptRanges", "latiner/dn.errDn", "errors.errorType", "latiner/code.errCode", "latiner/esc.errEscape"], apart := false, laid := [("unicode/utf8.acceptRanges", laid_unicode_utf8_acceptRanges), ("errors.errorType", laid_errors_errorType), ("latiner/code.errCode", laid_latiner_code_errCode), ("latiner/esc.errEscape", laid_latiner_esc_errEscape), ("latiner/dn.errDn", laid_latiner_dn_errDn), ("unicode/utf8.first", laid_unicode_utf8_first)] }
def DnTellsSaid : Prop := dnTellsRow.holds Tryz.pinned (OpenSpec.ofChange dnTellsSpec)

/-- ITS FALSE NEIGHBOUR: 'it returns false'. Refute it at one input. -/
def dnTellsWrong : ChangeSpec := { name := "dnTells", fn := fun _ => fun
  | [d1, d2, d3] => { results := [.lit (.bool false)], args := [d1, d2, d3] }
  | _ => none }
def DnTellsWrongFalsely : Prop := dnTellsRow.holds Tryz.pinned (OpenSpec.ofChange dnTellsWrong)

/-- 'latinerlaw07.DnBack': WHATEVER THE INPUT: true; the input reads as it did. -/
def dnBackSpec : ChangeSpec := { name := "dnBack", fn := fun _ => fun
  | [d1, d2] => { results := [.lit (.bool true)], args := [d1, d2] }
  | _ => none }
def dnBackRow : OpenClaim := { program := "ytjmpkbmgcbalkaagreatdoor", sum := "78590d625a39c7934006f10124e1b18418d38982239fe3eb209aa8fee34b4236", func := "latiner/latinerlaw07.DnBack", spec := "dnBack", inPlace := ["internal/bytealg.IndexByteString", "internal/bytealg.IndexString", "internal/bytealg.CountString", "internal/reflectlite.TypeOf", "internal/reflectlite.ValueOf", "(internal/reflectlite.Value).Type", "(internal/reflectlite.Value).IsNil", "(internal/reflectlite.Value).Elem", "(internal/reflectlite.Value).Set", "internal/abi.NoEscape", "internal/bytealg.MakeNoZero"], unfollowed := true, recurses := true, named := ["internal/bytealg.MaxLen", "unicode/utf8.first", "unicode/utf8.acceptRanges", "latiner/dn.errDn", "errors.errorType", "latiner/code.errCode", "latiner/esc.errEscape"], apart := false, laid := [("unicode/utf8.acceptRanges", laid_unicode_utf8_acceptRanges), ("errors.errorType", laid_errors_errorType), ("latiner/code.errCode", laid_latiner_code_errCode), ("latiner/esc.errEscape", laid_latiner_esc_errEscape), ("latiner/dn.errDn", laid_latiner_dn_errDn), ("unicode/utf8.first", laid_unicode_utf8_first)] }
def DnBackSaid : Prop := dnBackRow.holds Tryz.pinned (OpenSpec.ofChange dnBackSpec)

/-- ITS FALSE NEIGHBOUR: 'it returns false'. Refute it at one input. -/
def dnBackWrong : ChangeSpec := { name := "dnBack", fn := fun _ => fun
  | [d1, d2] => { results := [.lit (.bool false)], args := [d1, d2] }
  | _ => none }
def DnBackWrongFalsely : Prop := dnBackRow.holds Tryz.pinned (OpenSpec.ofChange dnBackWrong)

/-- 'latinerlaw07.DnUnder': WHATEVER THE INPUT: true; the input reads as it did. -/
def dnUnderSpec : ChangeSpec := { name := "dnUnder", fn := fun _ => fun
  | [d1, d2, d3] => { results := [.lit (.bool true)], args := [d1, d2, d3] }
  | _ => none }
def dnUnderRow : OpenClaim := { program := "ytjmpkbmgcbalkaagreatdoor", sum := "78590d625a39c7934006f10124e1b18418d38982239fe3eb209aa8fee34b4236", func := "latiner/latinerlaw07.DnUnder", spec := "dnUnder", inPlace := ["internal/bytealg.IndexByteString", "internal/bytealg.IndexString", "internal/bytealg.CountString", "internal/reflectlite.TypeOf", "internal/reflectlite.ValueOf", "(internal/reflectlite.Value).Type", "(internal/reflectlite.Value).IsNil", "(internal/reflectlite.Value).Elem", "(internal/reflectlite.Value).Set", "internal/abi.NoEscape", "internal/bytealg.MakeNoZero"], unfollowed := true, recurses := true, named := ["internal/bytealg.MaxLen", "unicode/utf8.first", "unicode/utf8.acceptRanges", "latiner/dn.errDn", "errors.errorType", "latiner/code.errCode", "latiner/esc.errEscape"], apart := false, laid := [("unicode/utf8.acceptRanges", laid_unicode_utf8_acceptRanges), ("errors.errorType", laid_errors_errorType), ("latiner/code.errCode", laid_latiner_code_errCode), ("latiner/esc.errEscape", laid_latiner_esc_errEscape), ("latiner/dn.errDn", laid_latiner_dn_errDn), ("unicode/utf8.first", laid_unicode_utf8_first)] }
def DnUnderSaid : Prop := dnUnderRow.holds Tryz.pinned (OpenSpec.ofChange dnUnderSpec)

/-- ITS FALSE NEIGHBOUR: 'it returns false'. Refute it at one input. -/
def dnUnderWrong : ChangeSpec := { name := "dnUnder", fn := fun _ => fun
  | [d1, d2, d3] => { results := [.lit (.bool false)], args := [d1, d2, d3] }
  | _ => none }
def DnUnderWrongFalsely : Prop := dnUnderRow.holds Tryz.pinned (OpenSpec.ofChange dnUnderWrong)

/-- 'latinerlaw07.DnJoins': WHATEVER THE INPUT: true; the input reads as it did. -/
def dnJoinsSpec : ChangeSpec := { name := "dnJoins", fn := fun _ => fun
  | [d1, d2] => { results := [.lit (.bool true)], args := [d1, d2] }
  | _ => none }
def dnJoinsRow : OpenClaim := { program := "ytjmpkbmgcbalkaagreatdoor", sum := "78590d625a39c7934006f10124e1b18418d38982239fe3eb209aa8fee34b4236", func := "latiner/latinerlaw07.DnJoins", spec := "dnJoins", inPlace := ["internal/bytealg.IndexByteString", "internal/bytealg.IndexString", "internal/bytealg.CountString", "internal/reflectlite.TypeOf", "internal/reflectlite.ValueOf", "(internal/reflectlite.Value).Type", "(internal/reflectlite.Value).IsNil", "(internal/reflectlite.Value).Elem", "(internal/reflectlite.Value).Set", "internal/abi.NoEscape", "internal/bytealg.MakeNoZero"], unfollowed := true, recurses := true, named := ["internal/bytealg.MaxLen", "unicode/utf8.first", "unicode/utf8.acceptRanges", "latiner/dn.errDn", "errors.errorType", "latiner/code.errCode", "latiner/esc.errEscape"], apart := false, laid := [("unicode/utf8.acceptRanges", laid_unicode_utf8_acceptRanges), ("errors.errorType", laid_errors_errorType), ("latiner/code.errCode", laid_latiner_code_errCode), ("latiner/esc.errEscape", laid_latiner_esc_errEscape), ("latiner/dn.errDn", laid_latiner_dn_errDn), ("unicode/utf8.first", laid_unicode_utf8_first)] }
def DnJoinsSaid : Prop := dnJoinsRow.holds Tryz.pinned (OpenSpec.ofChange dnJoinsSpec)

/-- ITS FALSE NEIGHBOUR: 'it returns false'. Refute it at one input. -/
def dnJoinsWrong : ChangeSpec := { name := "dnJoins", fn := fun _ => fun
  | [d1, d2] => { results := [.lit (.bool false)], args := [d1, d2] }
  | _ => none }
def DnJoinsWrongFalsely : Prop := dnJoinsRow.holds Tryz.pinned (OpenSpec.ofChange dnJoinsWrong)

/-- 'latinerlaw07.DnParents': WHATEVER THE INPUT: true; the input reads as it did. -/
def dnParentsSpec : ChangeSpec := { name := "dnParents", fn := fun _ => fun
  | [d] => { results := [.lit (.bool true)], args := [d] }
  | _ => none }
def dnParentsRow : OpenClaim := { program := "ytjmpkbmgcbalkaagreatdoor", sum := "78590d625a39c7934006f10124e1b18418d38982239fe3eb209aa8fee34b4236", func := "latiner/latinerlaw07.DnParents", spec := "dnParents", inPlace := ["internal/bytealg.IndexByteString", "internal/bytealg.IndexString", "internal/bytealg.CountString", "internal/reflectlite.TypeOf", "internal/reflectlite.ValueOf", "(internal/reflectlite.Value).Type", "(internal/reflectlite.Value).IsNil", "(internal/reflectlite.Value).Elem", "(internal/reflectlite.Value).Set", "internal/abi.NoEscape", "internal/bytealg.MakeNoZero"], unfollowed := true, recurses := true, named := ["internal/bytealg.MaxLen", "unicode/utf8.first", "unicode/utf8.acceptRanges", "latiner/dn.errDn", "errors.errorType", "latiner/code.errCode", "latiner/esc.errEscape"], apart := false, laid := [("unicode/utf8.acceptRanges", laid_unicode_utf8_acceptRanges), ("errors.errorType", laid_errors_errorType), ("latiner/code.errCode", laid_latiner_code_errCode), ("latiner/esc.errEscape", laid_latiner_esc_errEscape), ("latiner/dn.errDn", laid_latiner_dn_errDn), ("unicode/utf8.first", laid_unicode_utf8_first)] }
def DnParentsSaid : Prop := dnParentsRow.holds Tryz.pinned (OpenSpec.ofChange dnParentsSpec)

/-- ITS FALSE NEIGHBOUR: 'it returns false'. Refute it at one input. -/
def dnParentsWrong : ChangeSpec := { name := "dnParents", fn := fun _ => fun
  | [d] => { results := [.lit (.bool false)], args := [d] }
  | _ => none }
def DnParentsWrongFalsely : Prop := dnParentsRow.holds Tryz.pinned (OpenSpec.ofChange dnParentsWrong)

/-- 'latinerlaw07.DnValues': WHATEVER THE INPUT: true; the input reads as it did. -/
def dnValuesSpec : ChangeSpec := { name := "dnValues", fn := fun _ => fun
  | [d1, d2] => { results := [.lit (.bool true)], args := [d1, d2] }
  | _ => none }
def dnValuesRow : OpenClaim := { program := "ytjmpkbmgcbalkaagreatdoor", sum := "78590d625a39c7934006f10124e1b18418d38982239fe3eb209aa8fee34b4236", func := "latiner/latinerlaw07.DnValues", spec := "dnValues", inPlace := ["internal/bytealg.IndexByteString", "internal/bytealg.IndexString", "internal/bytealg.CountString", "internal/reflectlite.TypeOf", "internal/reflectlite.ValueOf", "(internal/reflectlite.Value).Type", "(internal/reflectlite.Value).IsNil", "(internal/reflectlite.Value).Elem", "(internal/reflectlite.Value).Set", "internal/abi.NoEscape", "internal/bytealg.MakeNoZero"], unfollowed := true, recurses := true, named := ["internal/bytealg.MaxLen", "unicode/utf8.first", "unicode/utf8.acceptRanges", "latiner/dn.errDn", "errors.errorType", "latiner/code.errCode", "latiner/esc.errEscape"], apart := false, laid := [("unicode/utf8.acceptRanges", laid_unicode_utf8_acceptRanges), ("errors.errorType", laid_errors_errorType), ("latiner/code.errCode", laid_latiner_code_errCode), ("latiner/esc.errEscape", laid_latiner_esc_errEscape), ("latiner/dn.errDn", laid_latiner_dn_errDn), ("unicode/utf8.first", laid_unicode_utf8_first)] }
def DnValuesSaid : Prop := dnValuesRow.holds Tryz.pinned (OpenSpec.ofChange dnValuesSpec)

/-- ITS FALSE NEIGHBOUR: 'it returns false'. Refute it at one input. -/
def dnValuesWrong : ChangeSpec := { name := "dnValues", fn := fun _ => fun
  | [d1, d2] => { results := [.lit (.bool false)], args := [d1, d2] }
  | _ => none }
def DnValuesWrongFalsely : Prop := dnValuesRow.holds Tryz.pinned (OpenSpec.ofChange dnValuesWrong)

/-- 'latinerlaw07.DnDigits': WHATEVER THE INPUT: true; the input reads as it did. -/
def dnDigitsSpec : ChangeSpec := { name := "dnDigits", fn := fun _ => fun
  | [d1, d2] => { results := [.lit (.bool true)], args := [d1, d2] }
  | _ => none }
def dnDigitsRow : OpenClaim := { program := "ytjmpkbmgcbalkaagreatdoor", sum := "78590d625a39c7934006f10124e1b18418d38982239fe3eb209aa8fee34b4236", func := "latiner/latinerlaw07.DnDigits", spec := "dnDigits", inPlace := ["internal/bytealg.IndexByteString", "internal/bytealg.IndexString", "internal/bytealg.CountString", "internal/reflectlite.TypeOf", "internal/reflectlite.ValueOf", "(internal/reflectlite.Value).Type", "(internal/reflectlite.Value).IsNil", "(internal/reflectlite.Value).Elem", "(internal/reflectlite.Value).Set", "internal/abi.NoEscape", "internal/bytealg.MakeNoZero"], unfollowed := true, recurses := true, named := ["internal/bytealg.MaxLen", "unicode/utf8.first", "unicode/utf8.acceptRanges", "latiner/dn.errDn", "errors.errorType", "latiner/code.errCode", "latiner/esc.errEscape"], apart := false, laid := [("unicode/utf8.acceptRanges", laid_unicode_utf8_acceptRanges), ("errors.errorType", laid_errors_errorType), ("latiner/code.errCode", laid_latiner_code_errCode), ("latiner/esc.errEscape", laid_latiner_esc_errEscape), ("latiner/dn.errDn", laid_latiner_dn_errDn), ("unicode/utf8.first", laid_unicode_utf8_first)] }
def DnDigitsSaid : Prop := dnDigitsRow.holds Tryz.pinned (OpenSpec.ofChange dnDigitsSpec)

/-- ITS FALSE NEIGHBOUR: 'it returns false'. Refute it at one input. -/
def dnDigitsWrong : ChangeSpec := { name := "dnDigits", fn := fun _ => fun
  | [d1, d2] => { results := [.lit (.bool false)], args := [d1, d2] }
  | _ => none }
def DnDigitsWrongFalsely : Prop := dnDigitsRow.holds Tryz.pinned (OpenSpec.ofChange dnDigitsWrong)

/- THE SECOND FORM. 'bulk': how many values and letters a reading holds, each counted each time it is reached (what is shared counts as often as it is met; a slice's spare places count too). A statement '..UptoSaid' is the law's where the arguments, and the package variables that the reading takes, are together of bulk at most 1048576: NARROWER than '..Said'. Prove '..Said' where nothing that the law and all that it calls make is longer than what came in: it says more and counts as full. Else prove '..UptoSaid'. A law counts once. -/
mutual
def uptoBulk {H : Type} : DataW H → Nat
  | .lit (.string bytes) => bytes.length + 1
  | .lit _ => 1
  | .nil => 1
  | .ptr d => uptoBulk d + 1
  | .slice elems spare => uptoBulkAll elems + uptoBulkAll spare + 1
  | .agg parts => uptoBulkAll parts + 1
  | .iface _ d => uptoBulk d + 1
  | .map entries => uptoBulkEntries entries + 1
  | .held _ => 1
def uptoBulkAll {H : Type} : List (DataW H) → Nat
  | [] => 0
  | d :: r => uptoBulk d + uptoBulkAll r
def uptoBulkEntries {H : Type} : List (Lit × DataW H) → Nat
  | [] => 0
  | x :: r => uptoBulkEntry x + uptoBulkEntries r
def uptoBulkEntry {H : Type} : Lit × DataW H → Nat
  | (.string bytes, d) => bytes.length + uptoBulk d + 1
  | (_, d) => uptoBulk d + 1
 end
def uptoSmall : (H : Type) → List (DataW H) → Bool := fun _ ds => decide (uptoBulkAll ds ≤ 1048576)
def OpenSpec.upto (s : _root_.Go.ChangeSpec) : _root_.Go.OpenSpec := { _root_.Go.OpenSpec.ofChange s with cond := some uptoSmall }

/-- 'latinerlaw07.DnTells', WHERE WHAT IT READS IS OF BULK AT MOST 1048576: true; the input reads as it did. -/
def dnTellsUptoRow : OpenClaim := { program := "ytjmpkbmgcbalkaagreatdoor", sum := "78590d625a39c7934006f10124e1b18418d38982239fe3eb209aa8fee34b4236", func := "latiner/latinerlaw07.DnTells", spec := "dnTells", inPlace := ["internal/bytealg.IndexByteString", "internal/bytealg.IndexString", "internal/bytealg.CountString", "internal/reflectlite.TypeOf", "internal/reflectlite.ValueOf", "(internal/reflectlite.Value).Type", "(internal/reflectlite.Value).IsNil", "(internal/reflectlite.Value).Elem", "(internal/reflectlite.Value).Set", "internal/abi.NoEscape", "internal/bytealg.MakeNoZero"], unfollowed := true, recurses := true, named := ["internal/bytealg.MaxLen", "unicode/utf8.first", "unicode/utf8.acceptRanges", "latiner/dn.errDn", "errors.errorType", "latiner/code.errCode", "latiner/esc.errEscape"], apart := false, laid := [("unicode/utf8.acceptRanges", laid_unicode_utf8_acceptRanges), ("errors.errorType", laid_errors_errorType), ("latiner/code.errCode", laid_latiner_code_errCode), ("latiner/esc.errEscape", laid_latiner_esc_errEscape), ("latiner/dn.errDn", laid_latiner_dn_errDn), ("unicode/utf8.first", laid_unicode_utf8_first)], narrowed := true }
def DnTellsUptoSaid : Prop := dnTellsUptoRow.holds Tryz.pinned (OpenSpec.upto dnTellsSpec)

/-- 'latinerlaw07.DnBack', WHERE WHAT IT READS IS OF BULK AT MOST 1048576: true; the input reads as it did. -/
def dnBackUptoRow : OpenClaim := { program := "ytjmpkbmgcbalkaagreatdoor", sum := "78590d625a39c7934006f10124e1b18418d38982239fe3eb209aa8fee34b4236", func := "latiner/latinerlaw07.DnBack", spec := "dnBack", inPlace := ["internal/bytealg.IndexByteString", "internal/bytealg.IndexString", "internal/bytealg.CountString", "internal/reflectlite.TypeOf", "internal/reflectlite.ValueOf", "(internal/reflectlite.Value).Type", "(internal/reflectlite.Value).IsNil", "(internal/reflectlite.Value).Elem", "(internal/reflectlite.Value).Set", "internal/abi.NoEscape", "internal/bytealg.MakeNoZero"], unfollowed := true, recurses := true, named := ["internal/bytealg.MaxLen", "unicode/utf8.first", "unicode/utf8.acceptRanges", "latiner/dn.errDn", "errors.errorType", "latiner/code.errCode", "latiner/esc.errEscape"], apart := false, laid := [("unicode/utf8.acceptRanges", laid_unicode_utf8_acceptRanges), ("errors.errorType", laid_errors_errorType), ("latiner/code.errCode", laid_latiner_code_errCode), ("latiner/esc.errEscape", laid_latiner_esc_errEscape), ("latiner/dn.errDn", laid_latiner_dn_errDn), ("unicode/utf8.first", laid_unicode_utf8_first)], narrowed := true }
def DnBackUptoSaid : Prop := dnBackUptoRow.holds Tryz.pinned (OpenSpec.upto dnBackSpec)

/-- 'latinerlaw07.DnUnder', WHERE WHAT IT READS IS OF BULK AT MOST 1048576: true; the input reads as it did. -/
def dnUnderUptoRow : OpenClaim := { program := "ytjmpkbmgcbalkaagreatdoor", sum := "78590d625a39c7934006f10124e1b18418d38982239fe3eb209aa8fee34b4236", func := "latiner/latinerlaw07.DnUnder", spec := "dnUnder", inPlace := ["internal/bytealg.IndexByteString", "internal/bytealg.IndexString", "internal/bytealg.CountString", "internal/reflectlite.TypeOf", "internal/reflectlite.ValueOf", "(internal/reflectlite.Value).Type", "(internal/reflectlite.Value).IsNil", "(internal/reflectlite.Value).Elem", "(internal/reflectlite.Value).Set", "internal/abi.NoEscape", "internal/bytealg.MakeNoZero"], unfollowed := true, recurses := true, named := ["internal/bytealg.MaxLen", "unicode/utf8.first", "unicode/utf8.acceptRanges", "latiner/dn.errDn", "errors.errorType", "latiner/code.errCode", "latiner/esc.errEscape"], apart := false, laid := [("unicode/utf8.acceptRanges", laid_unicode_utf8_acceptRanges), ("errors.errorType", laid_errors_errorType), ("latiner/code.errCode", laid_latiner_code_errCode), ("latiner/esc.errEscape", laid_latiner_esc_errEscape), ("latiner/dn.errDn", laid_latiner_dn_errDn), ("unicode/utf8.first", laid_unicode_utf8_first)], narrowed := true }
def DnUnderUptoSaid : Prop := dnUnderUptoRow.holds Tryz.pinned (OpenSpec.upto dnUnderSpec)

/-- 'latinerlaw07.DnJoins', WHERE WHAT IT READS IS OF BULK AT MOST 1048576: true; the input reads as it did. -/
def dnJoinsUptoRow : OpenClaim := { program := "ytjmpkbmgcbalkaagreatdoor", sum := "78590d625a39c7934006f10124e1b18418d38982239fe3eb209aa8fee34b4236", func := "latiner/latinerlaw07.DnJoins", spec := "dnJoins", inPlace := ["internal/bytealg.IndexByteString", "internal/bytealg.IndexString", "internal/bytealg.CountString", "internal/reflectlite.TypeOf", "internal/reflectlite.ValueOf", "(internal/reflectlite.Value).Type", "(internal/reflectlite.Value).IsNil", "(internal/reflectlite.Value).Elem", "(internal/reflectlite.Value).Set", "internal/abi.NoEscape", "internal/bytealg.MakeNoZero"], unfollowed := true, recurses := true, named := ["internal/bytealg.MaxLen", "unicode/utf8.first", "unicode/utf8.acceptRanges", "latiner/dn.errDn", "errors.errorType", "latiner/code.errCode", "latiner/esc.errEscape"], apart := false, laid := [("unicode/utf8.acceptRanges", laid_unicode_utf8_acceptRanges), ("errors.errorType", laid_errors_errorType), ("latiner/code.errCode", laid_latiner_code_errCode), ("latiner/esc.errEscape", laid_latiner_esc_errEscape), ("latiner/dn.errDn", laid_latiner_dn_errDn), ("unicode/utf8.first", laid_unicode_utf8_first)], narrowed := true }
def DnJoinsUptoSaid : Prop := dnJoinsUptoRow.holds Tryz.pinned (OpenSpec.upto dnJoinsSpec)

/-- 'latinerlaw07.DnParents', WHERE WHAT IT READS IS OF BULK AT MOST 1048576: true; the input reads as it did. -/
def dnParentsUptoRow : OpenClaim := { program := "ytjmpkbmgcbalkaagreatdoor", sum := "78590d625a39c7934006f10124e1b18418d38982239fe3eb209aa8fee34b4236", func := "latiner/latinerlaw07.DnParents", spec := "dnParents", inPlace := ["internal/bytealg.IndexByteString", "internal/bytealg.IndexString", "internal/bytealg.CountString", "internal/reflectlite.TypeOf", "internal/reflectlite.ValueOf", "(internal/reflectlite.Value).Type", "(internal/reflectlite.Value).IsNil", "(internal/reflectlite.Value).Elem", "(internal/reflectlite.Value).Set", "internal/abi.NoEscape", "internal/bytealg.MakeNoZero"], unfollowed := true, recurses := true, named := ["internal/bytealg.MaxLen", "unicode/utf8.first", "unicode/utf8.acceptRanges", "latiner/dn.errDn", "errors.errorType", "latiner/code.errCode", "latiner/esc.errEscape"], apart := false, laid := [("unicode/utf8.acceptRanges", laid_unicode_utf8_acceptRanges), ("errors.errorType", laid_errors_errorType), ("latiner/code.errCode", laid_latiner_code_errCode), ("latiner/esc.errEscape", laid_latiner_esc_errEscape), ("latiner/dn.errDn", laid_latiner_dn_errDn), ("unicode/utf8.first", laid_unicode_utf8_first)], narrowed := true }
def DnParentsUptoSaid : Prop := dnParentsUptoRow.holds Tryz.pinned (OpenSpec.upto dnParentsSpec)

/-- 'latinerlaw07.DnValues', WHERE WHAT IT READS IS OF BULK AT MOST 1048576: true; the input reads as it did. -/
def dnValuesUptoRow : OpenClaim := { program := "ytjmpkbmgcbalkaagreatdoor", sum := "78590d625a39c7934006f10124e1b18418d38982239fe3eb209aa8fee34b4236", func := "latiner/latinerlaw07.DnValues", spec := "dnValues", inPlace := ["internal/bytealg.IndexByteString", "internal/bytealg.IndexString", "internal/bytealg.CountString", "internal/reflectlite.TypeOf", "internal/reflectlite.ValueOf", "(internal/reflectlite.Value).Type", "(internal/reflectlite.Value).IsNil", "(internal/reflectlite.Value).Elem", "(internal/reflectlite.Value).Set", "internal/abi.NoEscape", "internal/bytealg.MakeNoZero"], unfollowed := true, recurses := true, named := ["internal/bytealg.MaxLen", "unicode/utf8.first", "unicode/utf8.acceptRanges", "latiner/dn.errDn", "errors.errorType", "latiner/code.errCode", "latiner/esc.errEscape"], apart := false, laid := [("unicode/utf8.acceptRanges", laid_unicode_utf8_acceptRanges), ("errors.errorType", laid_errors_errorType), ("latiner/code.errCode", laid_latiner_code_errCode), ("latiner/esc.errEscape", laid_latiner_esc_errEscape), ("latiner/dn.errDn", laid_latiner_dn_errDn), ("unicode/utf8.first", laid_unicode_utf8_first)], narrowed := true }
def DnValuesUptoSaid : Prop := dnValuesUptoRow.holds Tryz.pinned (OpenSpec.upto dnValuesSpec)

/-- 'latinerlaw07.DnDigits', WHERE WHAT IT READS IS OF BULK AT MOST 1048576: true; the input reads as it did. -/
def dnDigitsUptoRow : OpenClaim := { program := "ytjmpkbmgcbalkaagreatdoor", sum := "78590d625a39c7934006f10124e1b18418d38982239fe3eb209aa8fee34b4236", func := "latiner/latinerlaw07.DnDigits", spec := "dnDigits", inPlace := ["internal/bytealg.IndexByteString", "internal/bytealg.IndexString", "internal/bytealg.CountString", "internal/reflectlite.TypeOf", "internal/reflectlite.ValueOf", "(internal/reflectlite.Value).Type", "(internal/reflectlite.Value).IsNil", "(internal/reflectlite.Value).Elem", "(internal/reflectlite.Value).Set", "internal/abi.NoEscape", "internal/bytealg.MakeNoZero"], unfollowed := true, recurses := true, named := ["internal/bytealg.MaxLen", "unicode/utf8.first", "unicode/utf8.acceptRanges", "latiner/dn.errDn", "errors.errorType", "latiner/code.errCode", "latiner/esc.errEscape"], apart := false, laid := [("unicode/utf8.acceptRanges", laid_unicode_utf8_acceptRanges), ("errors.errorType", laid_errors_errorType), ("latiner/code.errCode", laid_latiner_code_errCode), ("latiner/esc.errEscape", laid_latiner_esc_errEscape), ("latiner/dn.errDn", laid_latiner_dn_errDn), ("unicode/utf8.first", laid_unicode_utf8_first)], narrowed := true }
def DnDigitsUptoSaid : Prop := dnDigitsUptoRow.holds Tryz.pinned (OpenSpec.upto dnDigitsSpec)

end Rows
end Go.Proofs.YtjmpkbmgcbalkaaGreatDoor
