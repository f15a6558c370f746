/- The tied card of latinerlaw12.RepCodes: it answers true for every input, and the input reads as it did. Its row lists the sentinel errors, errors.errorType and the decoder's two tables with what the program's text lays; nothing else is asked. -/
import Derived.Test.YtknelogmocedeaaGreatDoorR38
import Derived.Test.YtknelogmocedeaaGreatDoorR37
import Derived.Test.YtknelogmocedeaaGreatDoorCards
import Derived.Test.YtknelogmocedeaaGreatDoorTie
import Derived.SevenTiedAt
import Derived.SizedLaws
import Derived.ShutString
import Derived.Carry
import Derived.ChangeSlices
import Derived.SliceStrings
namespace Go.Proofs.YtknelogmocedeaaGreatDoor.CardRepCodes
open Go.ChangeShapes Go.WideShapes Go.ChangeAt Go.RowKit
open Go.ChangeMaps (open_string shut_string)
set_option linter.unusedVariables false
set_option maxRecDepth 100000
theorem laidOut:laidOutB Tryz.prog=true:=by kernel_rfl
theorem lifted(os:Os)(started:os.Started)(H:Type)(enc:TypeId×Value→H):
  ReturnsInHanded {} Tryz.checked os 9 .any (fun w args=>(Rows.repCodesSpec.pre enc Tryz.prog Tryz.f9 [] false w args∧laidMetH Tryz.prog laidAll w)∧sizedMet enc Tryz.prog Tryz.f9 (OpenSpec.ofChange Rows.repCodesSpec) false w args)
   (Rows.repCodesSpec.post enc Tryz.prog Tryz.f9 false true false false):=by
 refine change_and_shaped (C:=Tryz.checked) (X:=fun w _=>laidMetH Tryz.prog laidAll w) (fun _ _ _ hh h=>h.of_heap hh) own started (by kernel_rfl) Tryz.func9
  (ChangeSpec.witness_shaped (enc:=enc) (C:=Tryz.checked) (os:=os) (X:=fun w _=>laidMetH Tryz.prog laidAll w) false (startW os) #[.int .i64 0,.int .i64 0] 8 (startW_os os) (startW_shaped os _) (by kernel_rfl) (by kernel_rfl) (by kernel_rfl) (door_met os _)) ?_
 intro W base args ds gs before hval0 hW hL hsh
 have hval:∀(j:Nat) t v,Tryz.f9.params[j]? =some t→args[j]? =some v→Value.okWide Tryz.prog W .any base t v:=hval0
 have hW':=hW
 obtain⟨p,q,hA0,hV,rfl,hfz,hnd⟩:=hW
 have hA:DataW.TrodAll enc Tryz.prog W 0 (fun _=>true) true Tryz.f9.params.toList args.toList ds p:=hA0
 rw[Tryz.params9] at hA hval
 obtain⟨v0,v1,d0,d1,p0,p1,rfl,rfl,rfl,h0,h1⟩:=trodAll_two hA
 obtain⟨rfl,rfl⟩:=trodVars_none hV
 have k0:=h0
 have lt0:∀x∈p0,x.block < W.heap.size:=fun x hx=>hW'.lt x (by simp[hx])
 obtain⟨a0,rfl,rfl,rfl,ws0⟩:=open_int Tryz.underlying3 (hval 0 3 v0 rfl rfl) h0
 have k1:=h1
 have lt1:∀x∈p1,x.block < W.heap.size:=fun x hx=>hW'.lt x (by simp[hx])
 obtain⟨a1,rfl,rfl,rfl,ws1⟩:=open_int Tryz.underlying3 (hval 1 3 v1 rfl rfl) h1
 obtain⟨P,hE⟩:=env_of_laid hL hsh
 clear hA0 hval0
 refine((Rp.codes_law P a0 a1).2 W (Lall W) [.int .i64 a0,.int .i64 a1] hE (fun h=>h) ⟨_,_,rfl,rfl,⟨_,_,rfl,rfl,rfl⟩⟩).mono fun e W' ⟨v,L',he,bel,_,_,_,hr⟩=>?_
 obtain rfl:v=.bool true:=hr
 subst he
 exact⟨_,rfl,_,_,_,[],_,[],hW',trodAll_mk1 (shut_bool Tryz.underlying4 _),trodAll_mk2 (shut_int Tryz.underlying3 ws0) (shut_int Tryz.underlying3 ws1),rfl,bel.frame _,fun h=>by cases h⟩
set_option maxHeartbeats 40000000 in
theorem row_holds:Rows.RepCodesSaid:=
 OpenClaim.holds_of_wide 9 Tryz.f9 rfl rfl rfl rfl rfl rfl rfl ⟨rfl,rfl,rfl,rfl,rfl⟩ rfl rfl rfl rfl rfl (by as_aux_lemma=>kernel_rfl) Tryz.func9 (by simp only[joinedFacts,Bool.and_eq_true];(repeat' apply And.intro) <;> (as_aux_lemma=>kernel_rfl))
  (of_decide_eq_true (by as_aux_lemma=>kernel_rfl)) (by as_aux_lemma=>(unfold Func.isWrapper;first | (rw[if_pos (by decide+kernel)];kernel_rfl) | (rw[if_neg (by decide+kernel)];exact⟨rfl,rfl⟩)))
  (fun os started H enc _=>lifted os started H enc)
theorem card_holds:Rows.RepCodesCardSaid:=
 Claim7.holds_tied_plain_at .later [] [.data,.handle,.sentinel,.sentinel,.sentinel,.sentinel,.sentinel,.sentinel,.sentinel,.sentinel,.sentinel,.sentinel,.sentinel,.sentinel,.sentinel,.sentinel,.pinned] true (true, "1007d8d70d012249d4649cf2eac79587dfa65c2d6caff6bf7b3f4965dfbb1aa5") true row_holds (fun _ h=>by cases h) (by kernel_rfl) (fun _ h=>by cases h) repCodes_row_tie rfl ⟨rfl,rfl⟩ (by kernel_rfl) rfl
  (fun f fn hf hfn=>by
   obtain rfl:f=9:=Option.some.inj ((show Tryz.prog.funcNamed "latiner/latinerlaw12.RepCodes" =some 9 by kernel_rfl).symm.trans hf) |>.symm
   obtain rfl:fn=Tryz.f9:=(Option.some.inj (Tryz.func9.symm.trans hfn)).symm
   exact⟨by kernel_rfl,fun j t ht=>by
    rw[Tryz.params9] at ht
    have hm:=Array.mem_of_getElem? ht
    have hall:(Tryz.f9.params.toList.all fun u=> !Tryz.prog.wantsStandIn u)=true:=by kernel_rfl
    rw[Tryz.params9] at hall
    exact(show Tryz.prog.wantsStandIn t=false by simpa using List.all_eq_true.1 hall t (by simpa using hm))⟩)
  (by kernel_rfl)
#print axioms card_holds
end Go.Proofs.YtknelogmocedeaaGreatDoor.CardRepCodes
