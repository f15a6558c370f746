/- The tied card of latinerlaw12.RepApart: it answers true for every input, and the input reads as it did. Its row lists the sentinel errors, errors.errorType and the decoder's two tables with what the program's text lays; nothing else is asked. -/
import Derived.Test.YtknelogmocedeaaGreatDoorR35
import Derived.Test.YtknelogmocedeaaGreatDoorR36
import Derived.Test.YtknelogmocedeaaGreatDoorR37
import Derived.Test.YtknelogmocedeaaGreatDoorCards
import Derived.Test.YtknelogmocedeaaGreatDoorTie
import Derived.SevenTiedAt
import Derived.SizedLaws
import Derived.ShutString
import Derived.Carry
import Derived.ChangeSlices
import Derived.SliceStrings
namespace Go.Proofs.YtknelogmocedeaaGreatDoor.CardRepApart
open Go.ChangeShapes Go.WideShapes Go.ChangeAt Go.RowKit
open Go.ChangeMaps (open_string shut_string)
set_option linter.unusedVariables false
set_option maxRecDepth 100000
theorem laidOut:laidOutB Tryz.prog=true:=by kernel_rfl
theorem lifted(os:Os)(started:os.Started)(H:Type)(enc:TypeId×Value→H):
  ReturnsInHanded {} Tryz.checked os 8 .any (fun w args=>(Rows.repApartSpec.pre enc Tryz.prog Tryz.f8 [] false w args∧laidMetH Tryz.prog laidAll w)∧sizedMet enc Tryz.prog Tryz.f8 (OpenSpec.ofChange Rows.repApartSpec) false w args)
   (Rows.repApartSpec.post enc Tryz.prog Tryz.f8 false true false false):=by
 refine change_and_shaped (C:=Tryz.checked) (X:=fun w _=>laidMetH Tryz.prog laidAll w) (fun _ _ _ hh h=>h.of_heap hh) own started (by kernel_rfl) Tryz.func8
  (ChangeSpec.witness_shaped (enc:=enc) (C:=Tryz.checked) (os:=os) (X:=fun w _=>laidMetH Tryz.prog laidAll w) false (startW os) #[.agg #[.int .i64 0,.int .i64 0,.string ByteArray.empty,.slice none 0 0,.slice none 0 0,.int .i64 0,.int .i64 0,.int .i64 0,.int .i64 0,.bool false,.int .i64 0,.string ByteArray.empty,.string ByteArray.empty,.slice none 0 0,.string ByteArray.empty,.slice none 0 0,.slice none 0 0,.string ByteArray.empty,.bool false,.string ByteArray.empty,.bool false,.bool false,.string ByteArray.empty,.string ByteArray.empty,.bool false,.string ByteArray.empty,.string ByteArray.empty,.bool false,.int .i64 0,.string ByteArray.empty,.string ByteArray.empty,.slice none 0 0,.slice none 0 0,.int .i64 0,.slice none 0 0],.agg #[.int .i64 0,.int .i64 0,.string ByteArray.empty,.slice none 0 0,.slice none 0 0,.int .i64 0,.int .i64 0,.int .i64 0,.int .i64 0,.bool false,.int .i64 0,.string ByteArray.empty,.string ByteArray.empty,.slice none 0 0,.string ByteArray.empty,.slice none 0 0,.slice none 0 0,.string ByteArray.empty,.bool false,.string ByteArray.empty,.bool false,.bool false,.string ByteArray.empty,.string ByteArray.empty,.bool false,.string ByteArray.empty,.string ByteArray.empty,.bool false,.int .i64 0,.string ByteArray.empty,.string ByteArray.empty,.slice none 0 0,.slice none 0 0,.int .i64 0,.slice none 0 0]] 8 (startW_os os) (startW_shaped os _) (by kernel_rfl) (by kernel_rfl) (by kernel_rfl) (door_met os _)) ?_
 intro W base args ds gs before hval0 hW hL hsh
 have hval:∀(j:Nat) t v,Tryz.f8.params[j]? =some t→args[j]? =some v→Value.okWide Tryz.prog W .any base t v:=hval0
 have hW':=hW
 obtain⟨p,q,hA0,hV,rfl,hfz,hnd⟩:=hW
 have hA:DataW.TrodAll enc Tryz.prog W 0 (fun _=>true) true Tryz.f8.params.toList args.toList ds p:=hA0
 rw[Tryz.params8] at hA hval
 obtain⟨v0,v1,d0,d1,p0,p1,rfl,rfl,rfl,h0,h1⟩:=trodAll_two hA
 obtain⟨rfl,rfl⟩:=trodVars_none hV
 have k0:=h0
 have lt0:∀x∈p0,x.block < W.heap.size:=fun x hx=>hW'.lt x (by simp[hx])
 obtain⟨c0,rfl,_⟩:=okWide_struct Tryz.underlying85 (hval 0 85 v0 rfl rfl)
 obtain⟨l0,r0,a0,rfl⟩:=opV_arg (Ms.opV_msg W) h0
 have k1:=h1
 have lt1:∀x∈p1,x.block < W.heap.size:=fun x hx=>hW'.lt x (by simp[hx])
 obtain⟨c1,rfl,_⟩:=okWide_struct Tryz.underlying85 (hval 1 85 v1 rfl rfl)
 obtain⟨l1,r1,a1,rfl⟩:=opV_arg (Ms.opV_msg W) h1
 obtain⟨P,hE⟩:=env_of_laid hL hsh
 clear hA0 hval0
 refine((Rp.apart_law P a0 a1).2 W (Lall W) [.agg c0,.agg c1] hE (fun h=>h) ⟨_,_,rfl,Pa.agg_rep r0,⟨_,_,rfl,Pa.agg_rep r1,rfl⟩⟩).mono fun e W' ⟨v,L',he,bel,_,_,_,hr⟩=>?_
 obtain rfl:v=.bool true:=hr
 subst he
 exact⟨_,rfl,_,_,_,[],_,[],hW',trodAll_mk1 (shut_bool Tryz.underlying4 _),trodAll_mk2 (Below.trod laidOut (by kernel_rfl) (of_decide_eq_true (by kernel_rfl)) k0 bel lt0) (Below.trod laidOut (by kernel_rfl) (of_decide_eq_true (by kernel_rfl)) k1 bel lt1),rfl,bel.frame _,fun h=>by cases h⟩
set_option maxHeartbeats 40000000 in
theorem row_holds:Rows.RepApartSaid:=
 OpenClaim.holds_of_wide 8 Tryz.f8 rfl rfl rfl rfl rfl rfl rfl ⟨rfl,rfl,rfl,rfl,rfl⟩ rfl rfl rfl rfl rfl (by as_aux_lemma=>kernel_rfl) Tryz.func8 (by simp only[joinedFacts,Bool.and_eq_true];(repeat' apply And.intro) <;> (as_aux_lemma=>kernel_rfl))
  (of_decide_eq_true (by as_aux_lemma=>kernel_rfl)) (by as_aux_lemma=>(unfold Func.isWrapper;first | (rw[if_pos (by decide+kernel)];kernel_rfl) | (rw[if_neg (by decide+kernel)];exact⟨rfl,rfl⟩)))
  (fun os started H enc _=>lifted os started H enc)
theorem card_holds:Rows.RepApartCardSaid:=
 Claim7.holds_tied_plain_at .later [] [.data,.handle,.sentinel,.sentinel,.sentinel,.sentinel,.sentinel,.sentinel,.sentinel,.sentinel,.sentinel,.sentinel,.sentinel,.sentinel,.sentinel,.sentinel,.pinned] true (true, "1007d8d70d012249d4649cf2eac79587dfa65c2d6caff6bf7b3f4965dfbb1aa5") true row_holds (fun _ h=>by cases h) (by kernel_rfl) (fun _ h=>by cases h) repApart_row_tie rfl ⟨rfl,rfl⟩ (by kernel_rfl) rfl
  (fun f fn hf hfn=>by
   obtain rfl:f=8:=Option.some.inj ((show Tryz.prog.funcNamed "latiner/latinerlaw12.RepApart" =some 8 by kernel_rfl).symm.trans hf) |>.symm
   obtain rfl:fn=Tryz.f8:=(Option.some.inj (Tryz.func8.symm.trans hfn)).symm
   exact⟨by kernel_rfl,fun j t ht=>by
    rw[Tryz.params8] at ht
    have hm:=Array.mem_of_getElem? ht
    have hall:(Tryz.f8.params.toList.all fun u=> !Tryz.prog.wantsStandIn u)=true:=by kernel_rfl
    rw[Tryz.params8] at hall
    exact(show Tryz.prog.wantsStandIn t=false by simpa using List.all_eq_true.1 hall t (by simpa using hm))⟩)
  (by kernel_rfl)
#print axioms card_holds
end Go.Proofs.YtknelogmocedeaaGreatDoor.CardRepApart
