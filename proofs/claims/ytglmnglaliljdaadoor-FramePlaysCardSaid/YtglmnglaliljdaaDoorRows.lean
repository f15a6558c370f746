/-
  NARROWER THAN 'FOR EVERY INPUT', by the rows' own cells (each row's printed sentence says how): FramePlays: laid · FrameCuts: laid · FrameWhole: laid · FrameLarge: laid.
  DERIVED. THE GIVEN ROWS OF THIS SEAT. 4 by the template 'for every input the law returns true; each argument reads behind the call as it read before'; 0 by the template 'total and deterministic' (their statements: YtglmnglaliljdaaDoorTotals.lean).
  GIVEN WITH THE SEED: the statements are not yours to turn. If you find one false, say at which input.
  Laid BY PROGRAM, IN A SANDBOX (cutbox-rows.mjs): the forced cells as the released guide's own fill.sh prints them over the translation 14e4eb3135600936… (all of the seat's roots in one cut). By AI agents, Wed Nov 11 2026. No macro, syntax, notation, axiom, sorry.
-/
import Derived.Test.YtglmnglaliljdaaDoorChecked
import GoSem.Claim
import GoSem.ClaimJoined
import GoSem.ClaimMapViews
import Derived.JoinedTies
import Derived.KernelRfl
namespace Go.Proofs.YtglmnglaliljdaaDoor
/- THE CELL 'sum', in the pinned program and in every row, IS THE sha256 OF THE DUMP (.gsa) THAT YtglmnglaliljdaaDoorProg.lean LOADS. Nothing in Lean hashes anything: it is a label: what it is worth is what the hold of that sum in a sandbox is worth. -/
noncomputable def Tryd.pinned : Pinned := { name := "ytglmnglaliljdaadoor", sum := "14e4eb3135600936c11443336c38b2a6d207e436dbceb29a7b9613aee0dee100", checked := Tryd.checked }
namespace Rows
def none {H : Type} : Left H := { results := [], args := [] }

/- WHAT THE LISTED PACKAGE-LEVEL VARIABLES READ AS WHEN THE CALL BEGINS. Each datum BY PROGRAM (the guide's laid-datum.mjs) off the statement by which the dump's own 'gosem.cut.vars' lays the variable. In a bare row this is a premise. The card (YtglmnglaliljdaaDoorCards.lean) ties it to the program's text. -/
def laid_errors_errorType {H : Type} : DataW H := .iface "internal/reflectlite.rtype" (.agg [.ptr (.lit (.string [101, 114, 114, 111, 114]))])
def laid_latiner_size_errShort {H : Type} : DataW H := .iface "*errors.errorString" (.ptr (.agg [.lit (.string [116, 111, 111, 32, 115, 104, 111, 114, 116])]))
def laid_latiner_size_errForm {H : Type} : DataW H := .iface "*errors.errorString" (.ptr (.agg [.lit (.string [110, 111, 32, 108, 101, 110, 103, 116, 104])]))
def laid_latiner_size_errSize {H : Type} : DataW H := .iface "*errors.errorString" (.ptr (.agg [.lit (.string [116, 111, 111, 32, 103, 114, 101, 97, 116])]))
def laid_latiner_frame_errTag {H : Type} : DataW H := .iface "*errors.errorString" (.ptr (.agg [.lit (.string [110, 111, 32, 109, 101, 115, 115, 97, 103, 101])]))
def laid_latiner_frame_errForm {H : Type} : DataW H := .iface "*errors.errorString" (.ptr (.agg [.lit (.string [110, 111, 32, 108, 101, 110, 103, 116, 104])]))
def laid_latiner_frame_errLarge {H : Type} : DataW H := .iface "*errors.errorString" (.ptr (.agg [.lit (.string [116, 111, 111, 32, 108, 97, 114, 103, 101])]))
def laid_latiner_frame_errMore {H : Type} : DataW H := .iface "*errors.errorString" (.ptr (.agg [.lit (.string [110, 111, 116, 32, 119, 104, 111, 108, 101])]))

/-- 'latinerlaw14.FramePlays': WHATEVER THE INPUT: true; the input reads as it did. -/
def framePlaysSpec : ChangeSpec := { name := "framePlays", fn := fun _ => fun
  | [d] => { results := [.lit (.bool true)], args := [d] }
  | _ => none }
def framePlaysRow : OpenClaim := { program := "ytglmnglaliljdaadoor", sum := "14e4eb3135600936c11443336c38b2a6d207e436dbceb29a7b9613aee0dee100", func := "latiner/latinerlaw14.FramePlays", spec := "framePlays", inPlace := ["internal/reflectlite.ValueOf", "(internal/reflectlite.Value).Type", "(internal/reflectlite.Value).IsNil", "internal/reflectlite.TypeOf", "(internal/reflectlite.Value).Elem", "(internal/reflectlite.Value).Set"], unfollowed := true, recurses := true, named := ["latiner/frame.errTag", "latiner/frame.errForm", "latiner/frame.errLarge", "errors.errorType", "latiner/frame.errMore", "latiner/size.errShort", "latiner/size.errForm", "latiner/size.errSize"], apart := false, laid := [("errors.errorType", laid_errors_errorType), ("latiner/size.errShort", laid_latiner_size_errShort), ("latiner/size.errForm", laid_latiner_size_errForm), ("latiner/size.errSize", laid_latiner_size_errSize), ("latiner/frame.errTag", laid_latiner_frame_errTag), ("latiner/frame.errForm", laid_latiner_frame_errForm), ("latiner/frame.errLarge", laid_latiner_frame_errLarge), ("latiner/frame.errMore", laid_latiner_frame_errMore)] }
def FramePlaysSaid : Prop := framePlaysRow.holds Tryd.pinned (OpenSpec.ofChange framePlaysSpec)

/-- ITS FALSE NEIGHBOUR: 'it returns false'. Refute it at one input. -/
def framePlaysWrong : ChangeSpec := { name := "framePlays", fn := fun _ => fun
  | [d] => { results := [.lit (.bool false)], args := [d] }
  | _ => none }
def FramePlaysWrongFalsely : Prop := framePlaysRow.holds Tryd.pinned (OpenSpec.ofChange framePlaysWrong)

/-- 'latinerlaw14.FrameCuts': WHATEVER THE INPUT: true; the input reads as it did. -/
def frameCutsSpec : ChangeSpec := { name := "frameCuts", fn := fun _ => fun
  | [d1, d2] => { results := [.lit (.bool true)], args := [d1, d2] }
  | _ => none }
def frameCutsRow : OpenClaim := { program := "ytglmnglaliljdaadoor", sum := "14e4eb3135600936c11443336c38b2a6d207e436dbceb29a7b9613aee0dee100", func := "latiner/latinerlaw14.FrameCuts", spec := "frameCuts", inPlace := ["internal/reflectlite.ValueOf", "(internal/reflectlite.Value).Type", "(internal/reflectlite.Value).IsNil", "internal/reflectlite.TypeOf", "(internal/reflectlite.Value).Elem", "(internal/reflectlite.Value).Set"], unfollowed := true, recurses := true, named := ["latiner/frame.errTag", "latiner/frame.errForm", "latiner/frame.errLarge", "errors.errorType", "latiner/frame.errMore", "latiner/size.errShort", "latiner/size.errForm", "latiner/size.errSize"], apart := false, laid := [("errors.errorType", laid_errors_errorType), ("latiner/size.errShort", laid_latiner_size_errShort), ("latiner/size.errForm", laid_latiner_size_errForm), ("latiner/size.errSize", laid_latiner_size_errSize), ("latiner/frame.errTag", laid_latiner_frame_errTag), ("latiner/frame.errForm", laid_latiner_frame_errForm), ("latiner/frame.errLarge", laid_latiner_frame_errLarge), ("latiner/frame.errMore", laid_latiner_frame_errMore)] }
def FrameCutsSaid : Prop := frameCutsRow.holds Tryd.pinned (OpenSpec.ofChange frameCutsSpec)

/-- ITS FALSE NEIGHBOUR: 'it returns false'. Refute it at one input. -/
def frameCutsWrong : ChangeSpec := { name := "frameCuts", fn := fun _ => fun
  | [d1, d2] => { results := [.lit (.bool false)], args := [d1, d2] }
  | _ => none }
def FrameCutsWrongFalsely : Prop := frameCutsRow.holds Tryd.pinned (OpenSpec.ofChange frameCutsWrong)

/-- 'latinerlaw14.FrameWhole': WHATEVER THE INPUT: true; the input reads as it did. -/
def frameWholeSpec : ChangeSpec := { name := "frameWhole", fn := fun _ => fun
  | [d] => { results := [.lit (.bool true)], args := [d] }
  | _ => none }
def frameWholeRow : OpenClaim := { program := "ytglmnglaliljdaadoor", sum := "14e4eb3135600936c11443336c38b2a6d207e436dbceb29a7b9613aee0dee100", func := "latiner/latinerlaw14.FrameWhole", spec := "frameWhole", inPlace := ["internal/reflectlite.ValueOf", "(internal/reflectlite.Value).Type", "(internal/reflectlite.Value).IsNil", "internal/reflectlite.TypeOf", "(internal/reflectlite.Value).Elem", "(internal/reflectlite.Value).Set"], unfollowed := true, recurses := true, named := ["latiner/frame.errTag", "latiner/frame.errForm", "latiner/frame.errLarge", "errors.errorType", "latiner/frame.errMore", "latiner/size.errShort", "latiner/size.errForm", "latiner/size.errSize"], apart := false, laid := [("errors.errorType", laid_errors_errorType), ("latiner/size.errShort", laid_latiner_size_errShort), ("latiner/size.errForm", laid_latiner_size_errForm), ("latiner/size.errSize", laid_latiner_size_errSize), ("latiner/frame.errTag", laid_latiner_frame_errTag), ("latiner/frame.errForm", laid_latiner_frame_errForm), ("latiner/frame.errLarge", laid_latiner_frame_errLarge), ("latiner/frame.errMore", laid_latiner_frame_errMore)] }
def FrameWholeSaid : Prop := frameWholeRow.holds Tryd.pinned (OpenSpec.ofChange frameWholeSpec)

/-- ITS FALSE NEIGHBOUR: 'it returns false'. Refute it at one input. -/
def frameWholeWrong : ChangeSpec := { name := "frameWhole", fn := fun _ => fun
  | [d] => { results := [.lit (.bool false)], args := [d] }
  | _ => none }
def FrameWholeWrongFalsely : Prop := frameWholeRow.holds Tryd.pinned (OpenSpec.ofChange frameWholeWrong)

/-- 'latinerlaw14.FrameLarge': WHATEVER THE INPUT: true; the input reads as it did. -/
def frameLargeSpec : ChangeSpec := { name := "frameLarge", fn := fun _ => fun
  | [d1, d2] => { results := [.lit (.bool true)], args := [d1, d2] }
  | _ => none }
def frameLargeRow : OpenClaim := { program := "ytglmnglaliljdaadoor", sum := "14e4eb3135600936c11443336c38b2a6d207e436dbceb29a7b9613aee0dee100", func := "latiner/latinerlaw14.FrameLarge", spec := "frameLarge", inPlace := ["internal/reflectlite.ValueOf", "(internal/reflectlite.Value).Type", "(internal/reflectlite.Value).IsNil", "internal/reflectlite.TypeOf", "(internal/reflectlite.Value).Elem", "(internal/reflectlite.Value).Set"], unfollowed := true, recurses := true, named := ["latiner/frame.errTag", "latiner/frame.errForm", "latiner/frame.errLarge", "errors.errorType", "latiner/frame.errMore", "latiner/size.errShort", "latiner/size.errForm", "latiner/size.errSize"], apart := false, laid := [("errors.errorType", laid_errors_errorType), ("latiner/size.errShort", laid_latiner_size_errShort), ("latiner/size.errForm", laid_latiner_size_errForm), ("latiner/size.errSize", laid_latiner_size_errSize), ("latiner/frame.errTag", laid_latiner_frame_errTag), ("latiner/frame.errForm", laid_latiner_frame_errForm), ("latiner/frame.errLarge", laid_latiner_frame_errLarge), ("latiner/frame.errMore", laid_latiner_frame_errMore)] }
def FrameLargeSaid : Prop := frameLargeRow.holds Tryd.pinned (OpenSpec.ofChange frameLargeSpec)

/-- ITS FALSE NEIGHBOUR: 'it returns false'. Refute it at one input. -/
def frameLargeWrong : ChangeSpec := { name := "frameLarge", fn := fun _ => fun
  | [d1, d2] => { results := [.lit (.bool false)], args := [d1, d2] }
  | _ => none }
def FrameLargeWrongFalsely : Prop := frameLargeRow.holds Tryd.pinned (OpenSpec.ofChange frameLargeWrong)

/- THE SECOND FORM. 'bulk': how many values and letters a reading holds, each counted each time it is reached (what is shared counts as often as it is met; a slice's spare places count too). A statement '..UptoSaid' is the law's where the arguments, and the package variables that the reading takes, are together of bulk at most 1048576: NARROWER than '..Said'. Prove '..Said' where nothing that the law and all that it calls make is longer than what came in: it says more and counts as full. Else prove '..UptoSaid'. A law counts once. -/
mutual
def uptoBulk {H : Type} : DataW H → Nat
  | .lit (.string bytes) => bytes.length + 1
  | .lit _ => 1
  | .nil => 1
  | .ptr d => uptoBulk d + 1
  | .slice elems spare => uptoBulkAll elems + uptoBulkAll spare + 1
  | .agg parts => uptoBulkAll parts + 1
  | .iface _ d => uptoBulk d + 1
  | .map entries => uptoBulkEntries entries + 1
  | .held _ => 1
def uptoBulkAll {H : Type} : List (DataW H) → Nat
  | [] => 0
  | d :: r => uptoBulk d + uptoBulkAll r
def uptoBulkEntries {H : Type} : List (Lit × DataW H) → Nat
  | [] => 0
  | x :: r => uptoBulkEntry x + uptoBulkEntries r
def uptoBulkEntry {H : Type} : Lit × DataW H → Nat
  | (.string bytes, d) => bytes.length + uptoBulk d + 1
  | (_, d) => uptoBulk d + 1
 end
def uptoSmall : (H : Type) → List (DataW H) → Bool := fun _ ds => decide (uptoBulkAll ds ≤ 1048576)
def OpenSpec.upto (s : _root_.Go.ChangeSpec) : _root_.Go.OpenSpec := { _root_.Go.OpenSpec.ofChange s with cond := some uptoSmall }

/-- 'latinerlaw14.FramePlays', WHERE WHAT IT READS IS OF BULK AT MOST 1048576: true; the input reads as it did. -/
def framePlaysUptoRow : OpenClaim := { program := "ytglmnglaliljdaadoor", sum := "14e4eb3135600936c11443336c38b2a6d207e436dbceb29a7b9613aee0dee100", func := "latiner/latinerlaw14.FramePlays", spec := "framePlays", inPlace := ["internal/reflectlite.ValueOf", "(internal/reflectlite.Value).Type", "(internal/reflectlite.Value).IsNil", "internal/reflectlite.TypeOf", "(internal/reflectlite.Value).Elem", "(internal/reflectlite.Value).Set"], unfollowed := true, recurses := true, named := ["latiner/frame.errTag", "latiner/frame.errForm", "latiner/frame.errLarge", "errors.errorType", "latiner/frame.errMore", "latiner/size.errShort", "latiner/size.errForm", "latiner/size.errSize"], apart := false, laid := [("errors.errorType", laid_errors_errorType), ("latiner/size.errShort", laid_latiner_size_errShort), ("latiner/size.errForm", laid_latiner_size_errForm), ("latiner/size.errSize", laid_latiner_size_errSize), ("latiner/frame.errTag", laid_latiner_frame_errTag), ("latiner/frame.errForm", laid_latiner_frame_errForm), ("latiner/frame.errLarge", laid_latiner_frame_errLarge), ("latiner/frame.errMore", laid_latiner_frame_errMore)], narrowed := true }
def FramePlaysUptoSaid : Prop := framePlaysUptoRow.holds Tryd.pinned (OpenSpec.upto framePlaysSpec)

/-- 'latinerlaw14.FrameCuts', WHERE WHAT IT READS IS OF BULK AT MOST 1048576: true; the input reads as it did. -/
def frameCutsUptoRow : OpenClaim := { program := "ytglmnglaliljdaadoor", sum := "14e4eb3135600936c11443336c38b2a6d207e436dbceb29a7b9613aee0dee100", func := "latiner/latinerlaw14.FrameCuts", spec := "frameCuts", inPlace := ["internal/reflectlite.ValueOf", "(internal/reflectlite.Value).Type", "(internal/reflectlite.Value).IsNil", "internal/reflectlite.TypeOf", "(internal/reflectlite.Value).Elem", "(internal/reflectlite.Value).Set"], unfollowed := true, recurses := true, named := ["latiner/frame.errTag", "latiner/frame.errForm", "latiner/frame.errLarge", "errors.errorType", "latiner/frame.errMore", "latiner/size.errShort", "latiner/size.errForm", "latiner/size.errSize"], apart := false, laid := [("errors.errorType", laid_errors_errorType), ("latiner/size.errShort", laid_latiner_size_errShort), ("latiner/size.errForm", laid_latiner_size_errForm), ("latiner/size.errSize", laid_latiner_size_errSize), ("latiner/frame.errTag", laid_latiner_frame_errTag), ("latiner/frame.errForm", laid_latiner_frame_errForm), ("latiner/frame.errLarge", laid_latiner_frame_errLarge), ("latiner/frame.errMore", laid_latiner_frame_errMore)], narrowed := true }
def FrameCutsUptoSaid : Prop := frameCutsUptoRow.holds Tryd.pinned (OpenSpec.upto frameCutsSpec)

/-- 'latinerlaw14.FrameWhole', WHERE WHAT IT READS IS OF BULK AT MOST 1048576: true; the input reads as it did. -/
def frameWholeUptoRow : OpenClaim := { program := "ytglmnglaliljdaadoor", sum := "14e4eb3135600936c11443336c38b2a6d207e436dbceb29a7b9613aee0dee100", func := "latiner/latinerlaw14.FrameWhole", spec := "frameWhole", inPlace := ["internal/reflectlite.ValueOf", "(internal/reflectlite.Value).Type", "(internal/reflectlite.Value).IsNil", "internal/reflectlite.TypeOf", "(internal/reflectlite.Value).Elem", "(internal/reflectlite.Value).Set"], unfollowed := true, recurses := true, named := ["latiner/frame.errTag", "latiner/frame.errForm", "latiner/frame.errLarge", "errors.errorType", "latiner/frame.errMore", "latiner/size.errShort", "latiner/size.errForm", "latiner/size.errSize"], apart := false, laid := [("errors.errorType", laid_errors_errorType), ("latiner/size.errShort", laid_latiner_size_errShort), ("latiner/size.errForm", laid_latiner_size_errForm), ("latiner/size.errSize", laid_latiner_size_errSize), ("latiner/frame.errTag", laid_latiner_frame_errTag), ("latiner/frame.errForm", laid_latiner_frame_errForm), ("latiner/frame.errLarge", laid_latiner_frame_errLarge), ("latiner/frame.errMore", laid_latiner_frame_errMore)], narrowed := true }
def FrameWholeUptoSaid : Prop := frameWholeUptoRow.holds Tryd.pinned (OpenSpec.upto frameWholeSpec)

/-- 'latinerlaw14.FrameLarge', WHERE WHAT IT READS IS OF BULK AT MOST 1048576: true; the input reads as it did. -/
def frameLargeUptoRow : OpenClaim := { program := "ytglmnglaliljdaadoor", sum := "14e4eb3135600936c11443336c38b2a6d207e436dbceb29a7b9613aee0dee100", func := "latiner/latinerlaw14.FrameLarge", spec := "frameLarge", inPlace := ["internal/reflectlite.ValueOf", "(internal/reflectlite.Value).Type", "(internal/reflectlite.Value).IsNil", "internal/reflectlite.TypeOf", "(internal/reflectlite.Value).Elem", "(internal/reflectlite.Value).Set"], unfollowed := true, recurses := true, named := ["latiner/frame.errTag", "latiner/frame.errForm", "latiner/frame.errLarge", "errors.errorType", "latiner/frame.errMore", "latiner/size.errShort", "latiner/size.errForm", "latiner/size.errSize"], apart := false, laid := [("errors.errorType", laid_errors_errorType), ("latiner/size.errShort", laid_latiner_size_errShort), ("latiner/size.errForm", laid_latiner_size_errForm), ("latiner/size.errSize", laid_latiner_size_errSize), ("latiner/frame.errTag", laid_latiner_frame_errTag), ("latiner/frame.errForm", laid_latiner_frame_errForm), ("latiner/frame.errLarge", laid_latiner_frame_errLarge), ("latiner/frame.errMore", laid_latiner_frame_errMore)], narrowed := true }
def FrameLargeUptoSaid : Prop := frameLargeUptoRow.holds Tryd.pinned (OpenSpec.upto frameLargeSpec)

end Rows
end Go.Proofs.YtglmnglaliljdaaDoor
