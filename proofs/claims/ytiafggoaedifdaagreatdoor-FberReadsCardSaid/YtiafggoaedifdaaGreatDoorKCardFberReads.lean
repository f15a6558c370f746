/- The tied card of latinerlaw09.FberReads: it answers true for every input, and the input reads as it did. Its row lists the sentinel errors, errors.errorType and the decoder's two tables with what the program's text lays; nothing else is asked. -/
import Derived.Test.YtiafggoaedifdaaGreatDoorP32
import Derived.Test.YtiafggoaedifdaaGreatDoorP34
import Derived.Test.YtiafggoaedifdaaGreatDoorP33
import Derived.Test.YtiafggoaedifdaaGreatDoorCards
import Derived.Test.YtiafggoaedifdaaGreatDoorTie
import Derived.SevenTiedAt
import Derived.SizedLaws
import Derived.ShutString
import Derived.Carry
import Derived.ChangeSlices
import Derived.SliceStrings
namespace Go.Proofs.YtiafggoaedifdaaGreatDoor.CardFberReads
open Go.ChangeShapes Go.WideShapes Go.ChangeAt Go.RowKit
open Go.ChangeMaps (open_string shut_string)
set_option linter.unusedVariables false
set_option maxRecDepth 100000
theorem laidOut : laidOutB Tryz.prog = true := by kernel_rfl
theorem lifted (os : Os) (started : os.Started) (H : Type) (enc : TypeId × Value → H) :
  ReturnsInHanded {} Tryz.checked os 10 .any (fun w args => (Rows.fberReadsSpec.pre enc Tryz.prog Tryz.f10 [] false w args ∧ laidMetH Tryz.prog laidAll w) ∧ sizedMet enc Tryz.prog Tryz.f10 (OpenSpec.ofChange Rows.fberReadsSpec) false w args)
   (Rows.fberReadsSpec.post enc Tryz.prog Tryz.f10 false true false false) := by
 refine change_and_shaped (C := Tryz.checked) (X := fun w _ => laidMetH Tryz.prog laidAll w) (fun _ _ _ hh h => h.of_heap hh) own started (by kernel_rfl) Tryz.func10
  (ChangeSpec.witness_shaped (enc := enc) (C := Tryz.checked) (os := os) (X := fun w _ => laidMetH Tryz.prog laidAll w) false (startW os) #[.agg #[.int .i64 0, .string ByteArray.empty, .slice none 0 0], .string ByteArray.empty] 8 (startW_os os) (startW_shaped os _) (by kernel_rfl) (by kernel_rfl) (by kernel_rfl) (door_met os _)) ?_
 intro W base args ds gs before hval0 hW hL hsh
 have hval : ∀ (j : Nat) t v, Tryz.f10.params[j]? = some t → args[j]? = some v → Value.okWide Tryz.prog W .any base t v := hval0
 have hW' := hW
 obtain ⟨p, q, hA0, hV, rfl, hfz, hnd⟩ := hW
 have hA : DataW.TrodAll enc Tryz.prog W 0 (fun _ => true) true Tryz.f10.params.toList args.toList ds p := hA0
 rw [Tryz.params10] at hA hval
 obtain ⟨v0, v1, d0, d1, p0, p1, rfl, rfl, rfl, h0, h1⟩ := trodAll_two hA
 obtain ⟨rfl, rfl⟩ := trodVars_none hV
 have k0 := h0
 have lt0 : ∀ x ∈ p0, x.block < W.heap.size := fun x hx => hW'.lt x (by simp [hx])
 obtain ⟨c0, rfl, _⟩ := okWide_struct Tryz.underlying46 (hval 0 46 v0 rfl rfl)
 obtain ⟨l0, r0, a0, rfl⟩ := opV_arg (Tl.opV_node W) h0
 have k1 := h1
 have lt1 : ∀ x ∈ p1, x.block < W.heap.size := fun x hx => hW'.lt x (by simp [hx])
 obtain ⟨a1, rfl, rfl, rfl, ws1⟩ := open_string Tryz.underlying9 (hval 1 9 v1 rfl rfl) h1
 obtain ⟨P, hE⟩ := env_of_laid hL hsh
 clear hA0 hval0
 refine ((Fb.reads_law P a0 a1).2 W (Lall W) [.agg c0, .string a1] hE (fun h => h) ⟨_, _, rfl, Tl.node_rep r0, ⟨_, _, rfl, rfl, rfl⟩⟩).mono fun e W' ⟨v, L', he, bel, _, _, _, hr⟩ => ?_
 obtain rfl : v = .bool true := hr
 subst he
 exact ⟨_, rfl, _, _, _, [], _, [], hW', trodAll_mk1 (shut_bool Tryz.underlying4 _), trodAll_mk2 (Below.trod laidOut (by kernel_rfl) (of_decide_eq_true (by kernel_rfl)) k0 bel lt0) (shut_string Tryz.underlying9 ws1), rfl, bel.frame _, fun h => by cases h⟩
theorem row_holds : Rows.FberReadsSaid :=
 OpenClaim.holds_of_wide 10 Tryz.f10 rfl rfl rfl rfl rfl rfl rfl ⟨rfl, rfl, rfl, rfl, rfl⟩ rfl rfl rfl rfl rfl (by kernel_rfl) Tryz.func10 (by kernel_rfl)
  (of_decide_eq_true (by kernel_rfl)) (by unfold Func.isWrapper; first | (rw [if_pos (by decide +kernel)]; kernel_rfl) | (rw [if_neg (by decide +kernel)]; exact ⟨rfl, rfl⟩))
  (fun os started H enc _ => lifted os started H enc)
theorem card_holds : Rows.FberReadsCardSaid :=
 Claim7.holds_tied_plain_at .later [] [.data, .handle, .sentinel, .sentinel, .sentinel, .sentinel, .sentinel, .sentinel, .sentinel, .sentinel, .sentinel, .pinned] true (true, "4751b1e3f45089f29b6b23f7798ec4e29095612f1d1df236becae706f00386d3") true row_holds (fun _ h => by cases h) (by kernel_rfl) (fun _ h => by cases h) fberReads_row_tie rfl ⟨rfl, rfl⟩ (by kernel_rfl) rfl
  (fun f fn hf hfn => by
   obtain rfl : f = 10 := Option.some.inj ((show Tryz.prog.funcNamed "latiner/latinerlaw09.FberReads" = some 10 by kernel_rfl).symm.trans hf) |>.symm
   obtain rfl : fn = Tryz.f10 := (Option.some.inj (Tryz.func10.symm.trans hfn)).symm
   exact ⟨by kernel_rfl, fun j t ht => by
    rw [Tryz.params10] at ht
    have hm := Array.mem_of_getElem? ht
    have hall : (Tryz.f10.params.toList.all fun u => !Tryz.prog.wantsStandIn u) = true := by kernel_rfl
    rw [Tryz.params10] at hall
    exact (show Tryz.prog.wantsStandIn t = false by simpa using List.all_eq_true.1 hall t (by simpa using hm))⟩)
  (by kernel_rfl)
#print axioms card_holds
end Go.Proofs.YtiafggoaedifdaaGreatDoor.CardFberReads
