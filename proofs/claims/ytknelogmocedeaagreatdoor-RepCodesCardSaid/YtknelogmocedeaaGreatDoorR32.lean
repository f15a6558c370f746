/- Several texts, one behind the other. rep, walked: messages without fields of requests; what has only what its operation has. Conditions: as in these contracts. rep, walked: what has only what its operation has. Conditions: as in these contracts. rep, walked: the attributes that are not right; what an operation has may be. Conditions: as in these contracts. rep, walked: what an operation has may be; messages checked. Conditions: as in these contracts. rep, walked: responses' trees. Conditions: as in these contracts. -/
import Derived.Test.YtknelogmocedeaaGreatDoorR31
import Derived.Test.YtknelogmocedeaaGreatDoorR22
import Derived.Test.YtknelogmocedeaaGreatDoorR24
namespace Go.Proofs.YtknelogmocedeaaGreatDoor.Rp
open Go.RowKit Go.Shelf Go.Lib Tl Pr Pa Ms
open Fl (bl bt' bl_bt bl_of size_bl Flt)
open Fi (one_arg encS cF cG all_take_succ all_bad)
set_option linter.unusedVariables false
variable {X : En} (p : Nat → Addr)
theorem notReq_iff(m:Msg):notReq m=true↔(m.search.scope=0∧m.search.deref=0∧m.search.size=0∧m.search.time=0∧m.search.types=false∧(m.search.names.map encS).length=0)∧(m.search.filt.kind=0∧m.search.filt.name=⟨#[]⟩∧m.search.filt.value=⟨#[]⟩∧m.search.filt.final=⟨#[]⟩∧(m.search.filt.any.map encS).length+(m.search.filt.l.map cF).length=0)∧(m.changes.map cChg).length=0∧cMov m.move=cMov mov0∧cBnd m.bind=cBnd bnd0∧m.target=0∧m.id=0∧(m.controls.map cCtl).length=0:=by
 unfold notReq emptyS emptyF
 simp only[Bool.and_eq_true,decide_eq_true_eq,movE_iff,bndE_iff,mov_cells,bnd_cells,List.isEmpty_iff,List.length_map,List.length_eq_zero_iff,Fi.size0,Bool.not_eq_true',Nat.add_eq_zero_iff]
 constructor
 ·rintro⟨⟨h1,h2,h3,h4,h5,h6,h7,h8,h9,h10,h11,h12⟩,h13,h14,h15,h16,h17,h18⟩
  exact⟨⟨h1,h2,h3,h4,h5,h6⟩,⟨h7,h8,h9,h10,h11,h12⟩,h13,h14,h15,h16,h17,h18⟩
 ·rintro⟨⟨h1,h2,h3,h4,h5,h6⟩,⟨h7,h8,h9,h10,h11,h12⟩,h13,h14,h15,h16,h17,h18⟩
  exact⟨⟨h1,h2,h3,h4,h5,h6,h7,h8,h9,h10,h11,h12⟩,h13,h14,h15,h16,h17,h18⟩
def rq1(m:Msg):Bool:=decide (m.search.scope≠0)||(decide (m.search.deref≠0)||(decide (m.search.size≠0)||(decide (m.search.time≠0)||(m.search.types||decide ((m.search.names.map encS).length≠0)))))
def rq2(m:Msg):Bool:=decide (m.search.filt.kind≠0)||(decide (m.search.filt.name≠⟨#[]⟩)||(decide (m.search.filt.value≠⟨#[]⟩)||(decide (m.search.filt.final≠⟨#[]⟩)||decide ((m.search.filt.any.map encS).length+(m.search.filt.l.map cF).length≠0))))
def rq3(m:Msg):Bool:=decide ((m.changes.map cChg).length≠0)||(!movE m.move mov0||(!bndE m.bind bnd0||(decide (m.target≠0)||(decide (m.id≠0)||decide ((m.controls.map cCtl).length≠0)))))
theorem rq_all(m:Msg):(rq1 m||(rq2 m||rq3 m))= !notReq m:=by
 have h:=notReq_iff m
 have h2:(rq1 m||(rq2 m||rq3 m))=false↔notReq m=true:=by
  rw[h]
  unfold rq1 rq2 rq3
  simp only[Bool.or_eq_false_iff,decide_eq_false_iff_not,Decidable.not_not,Bool.not_eq_false',movE_iff,bndE_iff,mov_cells,bnd_cells]
 cases hn:notReq m
 ·rw[hn] at h2
  cases hx:(rq1 m||(rq2 m||rq3 m))
  ·cases h2.1 hx
  ·rfl
 ·exact h2.2 hn
set_option maxHeartbeats 16000000 in
theorem request_fn(m:Msg)(h1:m.search.filt.any.length≤100000000)(h2:m.search.filt.l.length≤100000000):Fn Tryz.prog X 144 [.v (.agg (cMsg m))] (.v (.bool (!notReq m))):=by
  rw[←rq_all]
  refine fn_cut tabOk mixed Tryz.f144 Tryz.func144 (by kernel_rfl) (by kernel_rfl) ?_
  refine .seq [] ⟨105,[(1,.ptr 1 0)],[(1,bMsg m)],[]⟩ ?_ ?_
  · conv=>whnf
    (focus ((repeat' first|exact trivial|exact rfl|exact .inl rfl|exact .inr ⟨rfl,rfl⟩|refine And.intro ?_ ?_);done))
  refine .seq [] ⟨105,[(1,.ptr 1 0),(3,.ptr 3 0)],[(1,bMsg m),(3,(cSch m.search).map .v)],[]⟩ ?_ ?_
  · conv=>whnf
    (focus ((repeat' first|exact trivial|exact rfl|exact .inl rfl|exact .inr ⟨rfl,rfl⟩|refine And.intro ?_ ?_);done))
  refine .seq [] ⟨105,[(1,.ptr 1 0),(3,.ptr 3 0),(4,.v (.bool (rq1 m)))],[(1,bMsg m),(3,(cSch m.search).map .v)],[]⟩ ?_ ?_
  · unfold rq1
    conv=>whnf
    refine⟨rfl,cmp_split (fun h=>?_) (fun h=>?_)⟩ <;> (conv=>whnf)
    · rw[decide_eq_true h,Bool.true_or];(focus ((repeat' first|exact trivial|exact rfl|exact .inl rfl|exact .inr ⟨rfl,rfl⟩|refine And.intro ?_ ?_);done))
    rw[decide_eq_false h,Bool.false_or]
    refine⟨rfl,cmp_split (fun h=>?_) (fun h=>?_)⟩ <;> (conv=>whnf)
    · rw[decide_eq_true h,Bool.true_or];(focus ((repeat' first|exact trivial|exact rfl|exact .inl rfl|exact .inr ⟨rfl,rfl⟩|refine And.intro ?_ ?_);done))
    rw[decide_eq_false h,Bool.false_or]
    refine⟨rfl,cmp_split (fun h=>?_) (fun h=>?_)⟩ <;> (conv=>whnf)
    · rw[decide_eq_true h,Bool.true_or];(focus ((repeat' first|exact trivial|exact rfl|exact .inl rfl|exact .inr ⟨rfl,rfl⟩|refine And.intro ?_ ?_);done))
    rw[decide_eq_false h,Bool.false_or]
    refine⟨rfl,cmp_split (fun h=>?_) (fun h=>?_)⟩ <;> (conv=>whnf)
    · rw[decide_eq_true h,Bool.true_or];(focus ((repeat' first|exact trivial|exact rfl|exact .inl rfl|exact .inr ⟨rfl,rfl⟩|refine And.intro ?_ ?_);done))
    rw[decide_eq_false h,Bool.false_or]
    cases hty:m.search.types <;> (conv=>whnf)
    all_goals
      first
        | (rw[Bool.true_or];(focus ((repeat' first|exact trivial|exact rfl|exact .inl rfl|exact .inr ⟨rfl,rfl⟩|refine And.intro ?_ ?_);done));done)
        | (rw[Bool.false_or]
           refine⟨rfl,cmp_split (fun h=>?_) (fun h=>?_)⟩ <;> (conv=>whnf)
           · rw[decide_eq_true (by omega)];(focus ((repeat' first|exact trivial|exact rfl|exact .inl rfl|exact .inr ⟨rfl,rfl⟩|refine And.intro ?_ ?_);done))
           · rw[decide_eq_false (by omega)];(focus ((repeat' first|exact trivial|exact rfl|exact .inl rfl|exact .inr ⟨rfl,rfl⟩|refine And.intro ?_ ?_);done)))
  refine .seq [] ⟨105,[(1,.ptr 1 0),(4,.v (.bool (rq1 m))),(5,.ptr 5 0)],[(1,bMsg m),(5,(cG m.search.filt).map .v)],[]⟩ ?_ ?_
  · conv=>whnf
    (focus ((repeat' first|exact trivial|exact rfl|exact .inl rfl|exact .inr ⟨rfl,rfl⟩|refine And.intro ?_ ?_);done))
  refine .seq [] ⟨105,[(1,.ptr 1 0),(4,.v (.bool (rq1 m))),(6,.v (.bool (rq2 m)))],[(1,bMsg m)],[]⟩ ?_ ?_
  · unfold rq2
    conv=>whnf
    refine⟨rfl,cmp_split (fun h=>?_) (fun h=>?_)⟩ <;> (conv=>whnf)
    · rw[decide_eq_true h,Bool.true_or];(focus ((repeat' first|exact trivial|exact rfl|exact .inl rfl|exact .inr ⟨rfl,rfl⟩|refine And.intro ?_ ?_);done))
    rw[decide_eq_false h,Bool.false_or]
    refine cmp_split (fun h=>?_) (fun h=>?_) <;> (conv=>whnf)
    · rw[decide_eq_true h,Bool.true_or];(focus ((repeat' first|exact trivial|exact rfl|exact .inl rfl|exact .inr ⟨rfl,rfl⟩|refine And.intro ?_ ?_);done))
    rw[decide_eq_false h,Bool.false_or]
    refine cmp_split (fun h=>?_) (fun h=>?_) <;> (conv=>whnf)
    · rw[decide_eq_true h,Bool.true_or];(focus ((repeat' first|exact trivial|exact rfl|exact .inl rfl|exact .inr ⟨rfl,rfl⟩|refine And.intro ?_ ?_);done))
    rw[decide_eq_false h,Bool.false_or]
    refine cmp_split (fun h=>?_) (fun h=>?_) <;> (conv=>whnf)
    · rw[decide_eq_true h,Bool.true_or];(focus ((repeat' first|exact trivial|exact rfl|exact .inl rfl|exact .inr ⟨rfl,rfl⟩|refine And.intro ?_ ?_);done))
    rw[decide_eq_false h,Bool.false_or]
    refine⟨rfl,(((m.search.filt.any.map encS).length+(m.search.filt.l.map cF).length:Nat):Int),wrap64 (by simp;omega) (by simp;omega),?_⟩
    conv=>whnf
    refine⟨rfl,cmp_split (fun h=>?_) (fun h=>?_)⟩ <;> (conv=>whnf)
    · rw[decide_eq_true (by omega)];(focus ((repeat' first|exact trivial|exact rfl|exact .inl rfl|exact .inr ⟨rfl,rfl⟩|refine And.intro ?_ ?_);done))
    · rw[decide_eq_false (by omega)];(focus ((repeat' first|exact trivial|exact rfl|exact .inl rfl|exact .inr ⟨rfl,rfl⟩|refine And.intro ?_ ?_);done))
  cases hr1:rq1 m <;> cases hr2:rq2 m <;> refine .base ?_ <;> (conv=>whnf)
  all_goals try ((focus ((repeat' first|exact trivial|exact rfl|exact .inl rfl|exact .inr ⟨rfl,rfl⟩|refine And.intro ?_ ?_);done));done)
  rw[Bool.false_or,Bool.false_or]
  unfold rq3
  refine⟨rfl,cmp_split (fun h=>?_) (fun h=>?_)⟩ <;> (conv=>whnf)
  · rw[decide_eq_true (by omega),Bool.true_or];(focus ((repeat' first|exact trivial|exact rfl|exact .inl rfl|exact .inr ⟨rfl,rfl⟩|refine And.intro ?_ ?_);done))
  rw[decide_eq_false (by omega),Bool.false_or]
  refine cmp_split (fun h=>?_) (fun h=>?_) <;> (conv=>whnf)
  rotate_left
  · rw[(bool_of (movE_iff m.move mov0)).2 (fun e=>h (congrArg cMov e)),Bool.not_false,Bool.true_or];(focus ((repeat' first|exact trivial|exact rfl|exact .inl rfl|exact .inr ⟨rfl,rfl⟩|refine And.intro ?_ ?_);done))
  rw[(bool_of (movE_iff m.move mov0)).1 ((mov_cells _ _).1 h),Bool.not_true,Bool.false_or]
  refine cmp_split (fun h=>?_) (fun h=>?_) <;> (conv=>whnf)
  rotate_left
  · rw[(bool_of (bndE_iff m.bind bnd0)).2 (fun e=>h (congrArg cBnd e)),Bool.not_false,Bool.true_or];(focus ((repeat' first|exact trivial|exact rfl|exact .inl rfl|exact .inr ⟨rfl,rfl⟩|refine And.intro ?_ ?_);done))
  rw[(bool_of (bndE_iff m.bind bnd0)).1 ((bnd_cells _ _).1 h),Bool.not_true,Bool.false_or]
  refine⟨rfl,cmp_split (fun h=>?_) (fun h=>?_)⟩ <;> (conv=>whnf)
  · rw[decide_eq_true h,Bool.true_or];(focus ((repeat' first|exact trivial|exact rfl|exact .inl rfl|exact .inr ⟨rfl,rfl⟩|refine And.intro ?_ ?_);done))
  rw[decide_eq_false h,Bool.false_or]
  refine⟨rfl,cmp_split (fun h=>?_) (fun h=>?_)⟩ <;> (conv=>whnf)
  · rw[decide_eq_true h,Bool.true_or];(focus ((repeat' first|exact trivial|exact rfl|exact .inl rfl|exact .inr ⟨rfl,rfl⟩|refine And.intro ?_ ?_);done))
  rw[decide_eq_false h,Bool.false_or]
  refine⟨rfl,cmp_split (fun h=>?_) (fun h=>?_)⟩ <;> (conv=>whnf)
  · rw[decide_eq_true (by omega)];(focus ((repeat' first|exact trivial|exact rfl|exact .inl rfl|exact .inr ⟨rfl,rfl⟩|refine And.intro ?_ ?_);done))
  · rw[decide_eq_false (by omega)];(focus ((repeat' first|exact trivial|exact rfl|exact .inl rfl|exact .inr ⟨rfl,rfl⟩|refine And.intro ?_ ?_);done))
end Go.Proofs.YtknelogmocedeaaGreatDoor.Rp
namespace Go.Proofs.YtknelogmocedeaaGreatDoor.Rp
open Go.RowKit Go.Shelf Go.Lib Tl Pr Pa Ms
open Fl (bl bt' bl_bt bl_of size_bl Flt)
open Fi (one_arg encS cF cG all_take_succ all_bad)
set_option linter.unusedVariables false
variable {X : En} (p : Nat → Addr)
def onlyL(m:Msg)(s:Shp)(has dn:Bool):List Bool:=[!notReq m, !s.res&& !emptyR m.result, !s.val&&(has||decide (m.ext.val≠⟨#[]⟩)), !s.oid&&decide (m.ext.oid≠⟨#[]⟩), !s.ent&&(dn||decide ((((m.attrs.map cAtt).length:Nat):Int) > 0)), !s.refs&&decide ((((m.refs.map encS).length:Nat):Int) > 0)]
theorem ne_size(b:ByteArray):decide (b≠⟨#[]⟩)= !decide (b.size=0):=by
 by_cases h:b.size=0
 ·rw[decide_eq_true h,decide_eq_false (fun e=>e (Fi.size0.1 h))];rfl
 ·rw[decide_eq_false h,show decide (b≠⟨#[]⟩)=true from decide_eq_true (fun e=>h (Fi.size0.2 e))];rfl
theorem pos_len{α β:Type}(f:α→β)(l:List α):decide ((((l.map f).length:Nat):Int) > 0)= !l.isEmpty:=by cases l <;> simp
theorem only_all(m:Msg)(s:Shp):((onlyL m s m.ext.has (decide (m.dn≠⟨#[]⟩))).all fun b=> !b)=onlyB m s:=by
 unfold onlyL onlyB
 simp only[ne_size,pos_len,List.all_cons,List.all_nil,Bool.and_true,Bool.not_and,Bool.not_or,Bool.not_not]
 congr 1
 congr 1
 congr 1
 congr 1
 congr 1
 ·cases m.refs <;> simp
set_option maxHeartbeats 16000000 in
theorem only_fn(m:Msg)(s:Shp)(hs:shapeF m.op=some s)(h1:m.search.filt.any.length≤100000000)(h2:m.search.filt.l.length≤100000000):Fn Tryz.prog X 109 [.v (.agg (cMsg m++cShp s))] (.v (.bool (onlyB m s))):=by
 rw[←only_all]
 have hq:=request_fn (X:=X) m h1 h2
 have he:=empty_fn (X:=X) m.result
 have hn:∀has dn,Fn Tryz.prog X 143 [.v (.sl ((onlyL m s has dn).map encB))] (.v (.bool ((onlyL m s has dn).all fun b=> !b))):=fun has dn=>isNone_fn _ (by simp[onlyL])
 refine fn_cut tabOk mixed Tryz.f109 Tryz.func109 (by kernel_rfl) (by kernel_rfl) ?_
 refine .seq [] ⟨77,[(1,.ptr 1 0)],[(1,(cMsg m++cShp s).map .v)],[]⟩ ?_ ?_
 ·conv=>whnf
  (focus ((repeat' first|exact trivial|exact rfl|exact .inl rfl|exact .inr ⟨rfl,rfl⟩|refine And.intro ?_ ?_);done))
 refine .seq [] ⟨77,[(1,.ptr 1 0),(3,.v (.bool (decide (m.dn≠⟨#[]⟩)||decide ((((m.attrs.map cAtt).length:Nat):Int) > 0))))],[(1,(cMsg m++cShp s).map .v)],[]⟩ ?_ ?_
 ·conv=>whnf
  refine cmp_split (fun h=>?_) (fun h=>?_) <;> (conv=>whnf)
  ·rw[show decide (m.dn≠⟨#[]⟩)=true from decide_eq_true h,Bool.true_or]
   (focus ((repeat' first|exact trivial|exact rfl|exact .inl rfl|exact .inr ⟨rfl,rfl⟩|refine And.intro ?_ ?_);done))
  ·rw[show decide (m.dn≠⟨#[]⟩)=false from decide_eq_false h,Bool.false_or]
   refine⟨rfl,cmp_bool ?_⟩
   conv=>whnf
   (focus ((repeat' first|exact trivial|exact rfl|exact .inl rfl|exact .inr ⟨rfl,rfl⟩|refine And.intro ?_ ?_);done))
 refine .base ?_
 have hn1:=hn m.ext.has (decide (m.dn≠⟨#[]⟩))
 generalize decide (m.dn≠⟨#[]⟩)=dn at hn1
 generalize ((onlyL m s m.ext.has dn).all fun b=> !b)=out at hn1
 unfold onlyL at hn1
 rcases shape_eq hs with⟨_,rfl⟩ | ⟨_,rfl⟩ | ⟨_,rfl⟩ | ⟨_,rfl⟩ | ⟨_,rfl⟩ | ⟨_,rfl⟩
 all_goals
  conv=>whnf
  cases hh:m.ext.has <;> rw[hh] at hn1
  all_goals
   refine⟨some [0,1,3,4,5,6,14,15,16,17,31,32,33,34,42,43,44,45,49,50,51,52,2,7,8,9,10,11,12,13,18,19,20,21,22,23,24,25,26,27,28,29,30,35,36,37,38,39,40,41,46,47,48,53,54,55,56,57,58,59,60,61,62],by kernel_rfl,?_⟩;conv=>whnf
   (repeat' (first | (((with_reducible apply st_call (hq));(focus ((repeat' first|exact trivial|exact rfl|exact .inl rfl|exact .inr ⟨rfl,rfl⟩|refine And.intro ?_ ?_);done));(focus (exact rfl));(focus (exact rfl))) <;> (conv=>whnf)) | (((with_reducible apply st_call (he));(focus ((repeat' first|exact trivial|exact rfl|exact .inl rfl|exact .inr ⟨rfl,rfl⟩|refine And.intro ?_ ?_);done));(focus (exact rfl));(focus (exact rfl))) <;> (conv=>whnf)) | (((with_reducible apply st_call (hn1));(focus ((repeat' first|exact trivial|exact rfl|exact .inl rfl|exact .inr ⟨rfl,rfl⟩|refine And.intro ?_ ?_);done));(focus (exact rfl));(focus (exact rfl))) <;> (conv=>whnf)) | ((refine cmp_bool ?_) <;> (conv=>whnf)) | ((refine⟨rfl,cmp_bool ?_⟩) <;> (conv=>whnf)) | ((rw[hh]) <;> (conv=>whnf)) | fail))
   (focus ((repeat' first|exact trivial|exact rfl|exact .inl rfl|exact .inr ⟨rfl,rfl⟩|refine And.intro ?_ ?_);done))
end Go.Proofs.YtknelogmocedeaaGreatDoor.Rp
namespace Go.Proofs.YtknelogmocedeaaGreatDoor.Rp
open Go.RowKit Go.Shelf Go.Lib Tl Pr Pa Ms
open Fl (bl bt' bl_bt bl_of size_bl Flt)
open Fi (one_arg encS cF cG all_take_succ all_bad)
set_option linter.unusedVariables false
variable {X : En} (p : Nat → Addr)
theorem attrs_fn(m:Msg)(s:Shp):Fn Tryz.prog X 146 [.v (.agg (cMsg m++cShp s))] (.fn 175 [.ro (cMsg m++cShp s)]):=by
 refine fnP_prog tabOk mixed Tryz.f146 Tryz.func146 (by kernel_rfl) (by kernel_rfl) (by kernel_rfl) ?_
 conv=>whnf
 exact⟨rfl,⟨_,rfl,rfl⟩,trivial⟩
def badA(l:List Att):List (List V):=(l.filter fun a=> !attB a 0).map fun a=>[.agg (cAtt a)]
theorem badA_take{l:List Att}{i:Nat}(h:i < l.length):badA (l.take (i+1))=badA (l.take i)++if attB l[i] 0=true then [] else [[.agg (cAtt l[i])]]:=by
 unfold badA
 rw[List.take_succ_eq_append_getElem h,List.filter_append,List.map_append]
 congr 1
 cases hb:attB l[i] 0 <;> simp[hb]
theorem badA_at{l:List Att}{i:Nat}(h:i < l.length)(hb:attB l[i] 0=false):(badA l)[(badA (l.take i)).length]? =some [.agg (cAtt l[i])]:=by
 have e:badA l=badA (l.take i)++badA (l.drop i):=by
  unfold badA
  rw[←List.map_append,←List.filter_append,List.take_append_drop]
 rw[e,List.getElem?_append_right (Nat.le_refl _),Nat.sub_self,List.drop_eq_getElem_cons h]
 unfold badA
 rw[List.filter_cons,hb]
 rfl
set_option maxHeartbeats 4000000 in
theorem attrs_it(m:Msg)(s:Shp)(hN:m.attrs.length≤100000000)(hA:∀a∈m.attrs,midA a):It Tryz.prog (envX p) 175 [.ro (cMsg m++cShp s)] (badA m.attrs):=by
 refine it_prog tabOk mixed Tryz.f175 Tryz.func175 (by kernel_rfl) (by kernel_rfl) (by kernel_rfl) fun k cvs hE hL0 hcv=>?_
 obtain⟨v0,rfl,b,o,rfl,hcell⟩:=one_arg hcv
 obtain⟨g0,g1,g2,⟨u3,a3,b3,c3,d3⟩,g4⟩:=hcell
 have hk2:=d3
 obtain⟨A,c,hv,_,_⟩:=d3
 subst hv
 refine⟨[.ro (.int .i64 m.id:: .int .i64 m.op:: .str m.dn:: .raw (.slice A (m.attrs.map cAtt).length c)::(cMsg m++cShp s).drop 4)],⟨_,_,rfl,⟨b,o,rfl,g0,g1,g2,⟨_,a3,b3,Rep.one_val c3 hk2,rfl⟩,g4⟩,rfl⟩,rfl,by kernel_rfl,?_⟩
 conv=>whnf
 refine⟨[(9,.sl (m.attrs.map cAtt))],⟨⟨rfl,fun v hv=>by rw[show v=_ from hv];exact hk2⟩,trivial⟩,rfl,Nat,fun i=>⟨29,[(0,.v (.raw (.func (.yield k.l0) #[] #[]))),(9,.v (.sl (m.attrs.map cAtt))),(10,.v (.int .i64 ((m.attrs.map cAtt).length:Nat))),(11,.v (.int .i64 (i:Nat)))],[],[]⟩,fun i=>some (badA (m.attrs.take i)).length,fun i=>i≤m.attrs.length,fun i=>m.attrs.length - i,⟨0,[],Nat.zero_le _,rfl,?_⟩,fun i hi=>?_⟩
 ·(focus ((repeat' first|exact trivial|exact rfl|exact .inl rfl|exact .inr ⟨rfl,rfl⟩|refine And.intro ?_ ?_);done))
 conv=>whnf
 refine⟨rfl,cmp_split (fun h=>?_) (fun h=>?_)⟩
 ·try dsimp only at h
  rw[List.length_map] at h
  have hil:i < m.attrs.length:=by omega
  have hf:=Attr_fn p m.attrs[i] 0 (hA _ (List.getElem_mem hil))
  unfold AttT at hf
  conv=>whnf
  refine st_idx hil rfl ?_
  cases hB:attB m.attrs[i] 0 <;> rw[hB] at hf
  ·rw[if_neg (by decide)] at hf
   have hyi:=badA_at hil hB
   have hbt:=badA_take hil
   rw[hB,if_neg (by decide)] at hbt
   conv=>whnf
   (refine st_call hf ?_ rfl rfl ?_;(focus ((repeat' first|exact trivial|exact rfl|exact .inl rfl|exact .inr ⟨rfl,rfl⟩|refine And.intro ?_ ?_);done));conv=>whnf)
   refine⟨rfl,cmp_true (by decide) ?_⟩
   conv=>whnf
   refine⟨23,_,_,[],⟨29,[(22,.v (.bool true)),(0,.v (.raw (.func (.yield k.l0) #[] #[]))),(9,.v (.sl (m.attrs.map cAtt))),(10,.v (.int .i64 ((m.attrs.map cAtt).length:Nat))),(11,.v (.int .i64 (i:Nat)))],[],[]⟩,rfl,rfl,rfl,hyi,.inl ⟨.inl ⟨rfl,.inl rfl⟩,⟨rfl,?_,trivial,trivial,rfl⟩⟩,?_,?_⟩
   ·exact⟨.inl ⟨rfl,.inl rfl⟩,.inl ⟨rfl,.inl rfl⟩,.inr rfl,.inl ⟨rfl,.inl rfl⟩,.inl ⟨rfl,.inl rfl⟩,trivial⟩
   ·conv=>whnf
    refine⟨rfl,st_succ (by omega) ?_⟩
    conv=>whnf
    refine⟨i+1,[],hil,by dsimp only;rw[hbt,List.length_append];rfl,by dsimp only;omega,?_⟩
    (focus ((repeat' first|exact trivial|exact rfl|exact .inl rfl|exact .inr ⟨rfl,rfl⟩|refine And.intro ?_ ?_);done))
   ·conv=>whnf
    exact .inr rfl
  ·rw[if_pos rfl] at hf
   have hbt:=badA_take hil
   rw[hB,if_pos rfl,List.append_nil] at hbt
   conv=>whnf
   (refine st_call hf ?_ rfl rfl ?_;(focus ((repeat' first|exact trivial|exact rfl|exact .inl rfl|exact .inr ⟨rfl,rfl⟩|refine And.intro ?_ ?_);done));conv=>whnf)
   refine⟨rfl,cmp_false (by decide) ?_⟩
   conv=>whnf
   refine⟨rfl,st_succ (by omega) ?_⟩
   conv=>whnf
   refine⟨i+1,[],hil,by dsimp only;rw[hbt],by dsimp only;omega,?_⟩
   (focus ((repeat' first|exact trivial|exact rfl|exact .inl rfl|exact .inr ⟨rfl,rfl⟩|refine And.intro ?_ ?_);done))
 ·try dsimp only at h
  rw[List.length_map] at h
  conv=>whnf
  have hie:m.attrs.take i=m.attrs:=List.take_of_length_le (by omega)
  exact .inl (by show some (badA (m.attrs.take i)).length=_;rw[hie])
end Go.Proofs.YtknelogmocedeaaGreatDoor.Rp
namespace Go.Proofs.YtknelogmocedeaaGreatDoor.Rp
open Go.RowKit Go.Shelf Go.Lib Tl Pr Pa Ms
open Fl (bl bt' bl_bt bl_of size_bl Flt)
open Fi (one_arg encS cF cG all_take_succ all_bad)
set_option linter.unusedVariables false
variable (p : Nat → Addr)
abbrev bX(m:Msg)(s:Shp):List T:=(cMsg m++cShp s).map .v
def v5(m:Msg):Bool:=decide (m.ext.val.size≤200)&&(m.ext.has||decide (m.ext.val.size=0))
def v6(m:Msg):Bool:=decide (m.ext.oid.size=0)||oidB m.ext.oid
def v7(m:Msg):Bool:=decide (m.attrs.length≤6)&&m.attrs.all fun a=>attB a 0
def v8(m:Msg)(s:Shp):Bool:=decide (m.refs.length≤3)&&(m.refs.all refB&&(!s.refs|| !decide (m.refs=[])))
theorem may_eq(m:Msg)(s:Shp):mayB m s=(resB m.result&&(v5 m&&(v6 m&&(v7 m&&(v8 m s&&dnB m.dn))))):=rfl
def resI(r:Res):Int:=if resB r=true then 0 else 100
theorem bad_none(l:List Att):decide ((badA l).length=0)=l.all fun a=>attB a 0:=by
 unfold badA
 rw[List.length_map]
 induction l with
 | nil=>rfl
 | cons a r ih=>
  rw[List.filter_cons,List.all_cons]
  cases h:attB a 0
  ·rw[Bool.not_false,if_pos rfl,Bool.false_and];simp
  ·rw[Bool.not_true,if_neg (by decide),Bool.true_and];exact ih
set_option maxHeartbeats 16000000 in
theorem right_fn(m:Msg)(s:Shp)(hm:midM m):Fn Tryz.prog (envX p) 110 [.v (.agg (cMsg m++cShp s))] (.v (.bool (mayB m s))):=by
 have hR:=Result_fn p m.result hm.result
 have hO:=oid_fn p m.ext.oid
 have hF:=all_fn p m.refs hm.refs.1 hm.refs.2
 have hD:=dn_fn p m.dn hm.dn
 rw[may_eq]
 refine fn_cut tabOk mixed Tryz.f110 Tryz.func110 (by kernel_rfl) (by kernel_rfl) ?_
 refine .seq [] ⟨99,[(1,.ptr 1 0)],[(1,bX m s)],[]⟩ ?_ ?_
 ·conv=>whnf
  (focus ((repeat' first|exact trivial|exact rfl|exact .inl rfl|exact .inr ⟨rfl,rfl⟩|refine And.intro ?_ ?_);done))
 refine .seq [] ⟨99,[(1,.ptr 1 0),(4,.v (.int .i64 (resI m.result)))],[(1,bX m s)],[]⟩ ?_ ?_
 ·unfold ResT at hR
  unfold resI
  cases hB:resB m.result <;> rw[hB] at hR
  ·rw[if_neg (by decide)] at hR
   conv=>whnf
   (refine st_call hR ?_ rfl rfl ?_;(focus ((repeat' first|exact trivial|exact rfl|exact .inl rfl|exact .inr ⟨rfl,rfl⟩|refine And.intro ?_ ?_);done));conv=>whnf)
   (focus ((repeat' first|exact trivial|exact rfl|exact .inl rfl|exact .inr ⟨rfl,rfl⟩|refine And.intro ?_ ?_);done))
  ·rw[if_pos rfl] at hR
   conv=>whnf
   (refine st_call hR ?_ rfl rfl ?_;(focus ((repeat' first|exact trivial|exact rfl|exact .inl rfl|exact .inr ⟨rfl,rfl⟩|refine And.intro ?_ ?_);done));conv=>whnf)
   (focus ((repeat' first|exact trivial|exact rfl|exact .inl rfl|exact .inr ⟨rfl,rfl⟩|refine And.intro ?_ ?_);done))
 refine .seq [] ⟨99,[(1,.ptr 1 0),(4,.v (.int .i64 (resI m.result))),(5,.v (.bool (v5 m)))],[(1,bX m s)],[]⟩ ?_ ?_
 ·unfold v5
  conv=>whnf
  refine⟨rfl,cmp_split (fun h=>?_) (fun h=>?_)⟩ <;> (conv=>whnf)
  ·rw[decide_eq_true (by omega),Bool.true_and]
   cases hh:m.ext.has <;> (conv=>whnf)
   ·rw[Bool.false_or]
    refine cmp_split (fun h=>?_) (fun h=>?_) <;> (conv=>whnf)
    ·rw[decide_eq_true (Fi.size0.2 h)];(focus ((repeat' first|exact trivial|exact rfl|exact .inl rfl|exact .inr ⟨rfl,rfl⟩|refine And.intro ?_ ?_);done))
    ·rw[decide_eq_false (fun e=>h (Fi.size0.1 e))];(focus ((repeat' first|exact trivial|exact rfl|exact .inl rfl|exact .inr ⟨rfl,rfl⟩|refine And.intro ?_ ?_);done))
   ·rw[Bool.true_or];(focus ((repeat' first|exact trivial|exact rfl|exact .inl rfl|exact .inr ⟨rfl,rfl⟩|refine And.intro ?_ ?_);done))
  ·rw[decide_eq_false (by omega),Bool.false_and];(focus ((repeat' first|exact trivial|exact rfl|exact .inl rfl|exact .inr ⟨rfl,rfl⟩|refine And.intro ?_ ?_);done))
 refine .seq [] ⟨99,[(1,.ptr 1 0),(4,.v (.int .i64 (resI m.result))),(5,.v (.bool (v5 m))),(6,.v (.bool (v6 m)))],[(1,bX m s)],[]⟩ ?_ ?_
 ·unfold v6
  conv=>whnf
  refine cmp_split (fun h=>?_) (fun h=>?_) <;> (conv=>whnf)
  ·rw[decide_eq_true (Fi.size0.2 h),Bool.true_or];(focus ((repeat' first|exact trivial|exact rfl|exact .inl rfl|exact .inr ⟨rfl,rfl⟩|refine And.intro ?_ ?_);done))
  ·rw[decide_eq_false (fun e=>h (Fi.size0.1 e)),Bool.false_or]
   (refine st_call hO ?_ rfl rfl ?_;(focus ((repeat' first|exact trivial|exact rfl|exact .inl rfl|exact .inr ⟨rfl,rfl⟩|refine And.intro ?_ ?_);done));conv=>whnf)
   (focus ((repeat' first|exact trivial|exact rfl|exact .inl rfl|exact .inr ⟨rfl,rfl⟩|refine And.intro ?_ ?_);done))
 refine .seq [] ⟨99,[(1,.ptr 1 0),(4,.v (.int .i64 (resI m.result))),(5,.v (.bool (v5 m))),(6,.v (.bool (v6 m))),(7,.ptr 7 0)],[(1,bX m s),(7,[.v (.bool (decide (m.attrs.length≤6)))])],[]⟩ ?_ ?_
 ·conv=>whnf
  refine⟨rfl,cmp_split (fun h=>?_) (fun h=>?_)⟩ <;> rw[List.length_map] at h <;> (conv=>whnf)
  ·rw[decide_eq_true (by omega)];(focus ((repeat' first|exact trivial|exact rfl|exact .inl rfl|exact .inr ⟨rfl,rfl⟩|refine And.intro ?_ ?_);done))
  ·rw[decide_eq_false (by omega)];(focus ((repeat' first|exact trivial|exact rfl|exact .inl rfl|exact .inr ⟨rfl,rfl⟩|refine And.intro ?_ ?_);done))
 refine .seq [] ⟨99,[(1,.ptr 1 0),(4,.v (.int .i64 (resI m.result))),(5,.v (.bool (v5 m))),(6,.v (.bool (v6 m))),(7,.ptr 7 0)],[(1,bX m s),(7,[.v (.bool (v7 m))])],[]⟩ ?_ ?_
 ·conv=>whnf
  (refine st_call (attrs_fn m s) ?_ rfl rfl ?_;(focus ((repeat' first|exact trivial|exact rfl|exact .inl rfl|exact .inr ⟨rfl,rfl⟩|refine And.intro ?_ ?_);done));conv=>whnf)
  refine⟨_,_,fun j=>⟨99,[(1,.ptr 1 0),(4,.v (.int .i64 (resI m.result))),(5,.v (.bool (v5 m))),(6,.v (.bool (v6 m))),(7,.ptr 7 0)],[(1,bX m s),(7,[.v (.bool (decide (m.attrs.length≤6)&&decide (j=0)))])],[]⟩,fun j=>True,attrs_it p m s hm.attrs.1 hm.attrs.2,⟨rfl,trivial⟩,rfl,⟨trivial,[],?_⟩,fun j=>rfl,(show ∀p∈[54],p < 99 by decide),fun j v hv hj=>?_,fun hj=>?_⟩
  ·dsimp only
   rw[decide_eq_true (rfl:0=0),Bool.and_true]
   (focus ((repeat' first|exact trivial|exact rfl|exact .inl rfl|exact .inr ⟨rfl,rfl⟩|refine And.intro ?_ ?_);done))
  ·have hv1:∃a,v=[.agg (cAtt a)]:=by
    unfold badA at hv
    rw[List.getElem?_map] at hv
    obtain⟨a,_,rfl⟩:=Option.map_eq_some_iff.1 hv
    exact⟨a,rfl⟩
   obtain⟨a,rfl⟩:=hv1
   refine⟨rfl,?_⟩
   conv=>whnf
   refine⟨trivial,[],?_⟩
   dsimp only
   rw[show decide (j+1=0)=false from rfl,Bool.and_false]
   (focus ((repeat' first|exact trivial|exact rfl|exact .inl rfl|exact .inr ⟨rfl,rfl⟩|refine And.intro ?_ ?_);done))
  ·conv=>whnf
   unfold v7
   rw[←bad_none]
   (focus ((repeat' first|exact trivial|exact rfl|exact .inl rfl|exact .inr ⟨rfl,rfl⟩|refine And.intro ?_ ?_);done))
 refine .seq [] ⟨99,[(1,.ptr 1 0),(4,.v (.int .i64 (resI m.result))),(5,.v (.bool (v5 m))),(6,.v (.bool (v6 m))),(7,.ptr 7 0),(8,.v (.bool (v8 m s)))],[(1,bX m s),(7,[.v (.bool (v7 m))])],[]⟩ ?_ ?_
 ·unfold v8
  conv=>whnf
  refine⟨rfl,cmp_split (fun h=>?_) (fun h=>?_)⟩ <;> rw[List.length_map] at h <;> (conv=>whnf)
  ·rw[decide_eq_true (by omega),Bool.true_and]
   cases hA:m.refs.all refB <;> rw[hA] at hF
   ·(refine st_call hF ?_ rfl rfl ?_;(focus ((repeat' first|exact trivial|exact rfl|exact .inl rfl|exact .inr ⟨rfl,rfl⟩|refine And.intro ?_ ?_);done));conv=>whnf)
    rw[Bool.false_and]
    (focus ((repeat' first|exact trivial|exact rfl|exact .inl rfl|exact .inr ⟨rfl,rfl⟩|refine And.intro ?_ ?_);done))
   ·(refine st_call hF ?_ rfl rfl ?_;(focus ((repeat' first|exact trivial|exact rfl|exact .inl rfl|exact .inr ⟨rfl,rfl⟩|refine And.intro ?_ ?_);done));conv=>whnf)
    rw[Bool.true_and]
    cases hs:s.refs <;> (conv=>whnf)
    ·rw[Bool.not_false,Bool.true_or]
     (focus ((repeat' first|exact trivial|exact rfl|exact .inl rfl|exact .inr ⟨rfl,rfl⟩|refine And.intro ?_ ?_);done))
    ·rw[Bool.not_true,Bool.false_or]
     refine⟨rfl,cmp_split (fun h=>?_) (fun h=>?_)⟩ <;> rw[List.length_map] at h <;> (conv=>whnf)
     ·rw[decide_eq_false (fun e=>by rw[e] at h;simp at h),Bool.not_false];(focus ((repeat' first|exact trivial|exact rfl|exact .inl rfl|exact .inr ⟨rfl,rfl⟩|refine And.intro ?_ ?_);done))
     ·rw[decide_eq_true (List.length_eq_zero_iff.1 (by omega)),Bool.not_true];(focus ((repeat' first|exact trivial|exact rfl|exact .inl rfl|exact .inr ⟨rfl,rfl⟩|refine And.intro ?_ ?_);done))
  ·rw[decide_eq_false (by omega),Bool.false_and];(focus ((repeat' first|exact trivial|exact rfl|exact .inl rfl|exact .inr ⟨rfl,rfl⟩|refine And.intro ?_ ?_);done))
 refine .base ?_
 generalize v5 m=x5,v6 m=x6,v7 m=x7,v8 m s=x8
 unfold resI
 cases hB:resB m.result <;> cases x5 <;> cases x6 <;> cases x7 <;> cases x8 <;> (conv=>whnf)
 all_goals
  (repeat' (first | (((with_reducible apply st_call (hD));(focus ((repeat' first|exact trivial|exact rfl|exact .inl rfl|exact .inr ⟨rfl,rfl⟩|refine And.intro ?_ ?_);done));(focus (exact rfl));(focus (exact rfl))) <;> (conv=>whnf)) | ((refine⟨rfl,cmp_true (by decide) ?_⟩) <;> (conv=>whnf)) | ((refine⟨rfl,cmp_false (by decide) ?_⟩) <;> (conv=>whnf)) | fail))
  (focus ((repeat' first|exact trivial|exact rfl|exact .inl rfl|exact .inr ⟨rfl,rfl⟩|refine And.intro ?_ ?_);done))
def repT(m:Msg):T:=match repS m with
 | some s=>.tup [.v (.agg (cMsg m++cShp s)),.v .nili]
 | none=>.tup [.v (.agg (cMsg msg0++cShp shp0)),.v (reErr m.op)]
set_option maxRecDepth 100000 in
set_option maxHeartbeats 4000000 in
theorem checked_fn(m:Msg)(hm:midM m)(h1:m.search.filt.any.length≤100000000)(h2:m.search.filt.l.length≤100000000):Fn Tryz.prog (envX p) 72 [.v (.agg (cMsg m))] (repT m):=by
 have hs:=shaped_fn (X:=envX p) m.op
 unfold repT repS
 cases hS:shapeF m.op with
 | none=>
  rw[hS] at hs
  refine fn_prog tabOk mixed Tryz.f72 Tryz.func72 (by kernel_rfl) (by kernel_rfl) ?_
  conv=>whnf
  (refine st_call hs ?_ rfl rfl ?_;(focus ((repeat' first|exact trivial|exact rfl|exact .inl rfl|exact .inr ⟨rfl,rfl⟩|refine And.intro ?_ ?_);done));conv=>whnf)
  refine⟨some [0,1,1002,3,4,5,6],by kernel_rfl,?_⟩;conv=>whnf
  (focus ((repeat' first|exact trivial|exact rfl|exact .inl rfl|exact .inr ⟨rfl,rfl⟩|refine And.intro ?_ ?_);done))
 | some s=>
  rw[hS] at hs
  have ho:=only_fn (X:=envX p) m s hS h1 h2
  have hr:=right_fn p m s hm
  dsimp only
  cases hO:onlyB m s <;> cases hR:mayB m s <;> rw[hO] at ho <;> rw[hR] at hr
  all_goals
   refine fn_prog tabOk mixed Tryz.f72 Tryz.func72 (by kernel_rfl) (by kernel_rfl) ?_
   conv=>whnf
   (refine st_call hs ?_ rfl rfl ?_;(focus ((repeat' first|exact trivial|exact rfl|exact .inl rfl|exact .inr ⟨rfl,rfl⟩|refine And.intro ?_ ?_);done));conv=>whnf)
   (refine st_call ho ?_ rfl rfl ?_;(focus ((repeat' first|exact trivial|exact rfl|exact .inl rfl|exact .inr ⟨rfl,rfl⟩|refine And.intro ?_ ?_);done));conv=>whnf)
   try (refine st_call hr ?_ rfl rfl ?_;(focus ((repeat' first|exact trivial|exact rfl|exact .inl rfl|exact .inr ⟨rfl,rfl⟩|refine And.intro ?_ ?_);done));conv=>whnf)
   try refine⟨some [0,1,1002,3,4,5,6],by kernel_rfl,?_⟩;conv=>whnf
   (focus ((repeat' first|exact trivial|exact rfl|exact .inl rfl|exact .inr ⟨rfl,rfl⟩|refine And.intro ?_ ?_);done))
end Go.Proofs.YtknelogmocedeaaGreatDoor.Rp
namespace Go.Proofs.YtknelogmocedeaaGreatDoor.Rp
open Go.RowKit Go.Shelf Go.Lib Tl Pr Pa Ms
open Fl (bl bt' bl_bt bl_of size_bl Flt)
open Fi (one_arg encS cF cG all_take_succ all_bad)
set_option linter.unusedVariables false
variable (p : Nat → Addr)
theorem is_fn{X:En}(op:Int):Fn Tryz.prog X 40 [.v (.int .i64 op)] (.v (.bool (shapeF op).isSome)):=by
 have hs:=shaped_fn (X:=X) op
 cases h:shapeF op <;> rw[h] at hs
 all_goals
  refine fn_prog tabOk mixed Tryz.f40 Tryz.func40 (by kernel_rfl) (by kernel_rfl) ?_
  conv=>whnf
  (refine st_call hs ?_ rfl rfl ?_;(focus ((repeat' first|exact trivial|exact rfl|exact .inl rfl|exact .inr ⟨rfl,rfl⟩|refine And.intro ?_ ?_);done));conv=>whnf)
  (focus ((repeat' first|exact trivial|exact rfl|exact .inl rfl|exact .inr ⟨rfl,rfl⟩|refine And.intro ?_ ?_);done))
set_option maxRecDepth 100000 in
theorem Right_fn(m:Msg)(hm:midM m)(h1:m.search.filt.any.length≤100000000)(h2:m.search.filt.l.length≤100000000):Fn Tryz.prog (envX p) 41 [.v (.agg (cMsg m))] (.v (.bool (repB m))):=by
 have hc:=checked_fn p m hm h1 h2
 unfold repT at hc
 unfold repB
 cases h:repS m <;> rw[h] at hc
 all_goals
  refine fn_prog tabOk mixed Tryz.f41 Tryz.func41 (by kernel_rfl) (by kernel_rfl) ?_
  conv=>whnf
  (refine st_call hc ?_ rfl rfl ?_;(focus ((repeat' first|exact trivial|exact rfl|exact .inl rfl|exact .inr ⟨rfl,rfl⟩|refine And.intro ?_ ?_);done));conv=>whnf)
  (focus ((repeat' first|exact trivial|exact rfl|exact .inl rfl|exact .inr ⟨rfl,rfl⟩|refine And.intro ?_ ?_);done))
theorem tab_nw{P:Program}{tb:Tab}(h:TabOk P tb)(l:List Nat):TabOk P {tb with nwf:=l}:=⟨h.mps,h.eqs,h.fld,h.siz,h.byt,h.elt,h.zer,h.str,h.boo,h.ints,h.conT,h.conF⟩
set_option maxHeartbeats 8000000 in
theorem result_own(r:Res)(hm:midR r)(hB:resB r=true)(m:Msg)(s:Shp):FnI Tryz.prog (envX p) 28 [.v (.agg (cRes r))] [(1,bX m s)] [] (.tup [.own 200 29 ((resN r).map cM),.v (.int .i64 0)]) [(1,bX m s)] [(200,some 29)] []:=by
 have hc:=check_res p r hm
 rw[hB] at hc
 have h1:=number_fn p r.code
 have h2:=text_fn (X:=envX p) r.dn
 have h3:=text_fn (X:=envX p) r.text
 have h4:=texts_fn (X:=envX p) 163 r.refs hm.refs.1
 unfold resN
 by_cases h0:0 < r.refs.length
 ·rw[if_pos h0]
  refine fnI_prog tabOk mixed Tryz.f28 [] (fun k=>match Nat.beq k 200 with | true=>31 | false=>33+k) Tryz.func28 (by kernel_rfl) (by kernel_rfl) rfl rfl ?_
  conv=>whnf
  (refine st_call hc ?_ rfl rfl ?_;(focus ((repeat' first|exact trivial|exact rfl|exact .inl rfl|exact .inr ⟨rfl,rfl⟩|refine And.intro ?_ ?_);done));conv=>whnf)
  refine⟨some [0,1,3,4,6,7,2,5,8,9,10],by kernel_rfl,?_⟩;conv=>whnf
  (refine st_call h1 ?_ rfl rfl ?_;(focus ((repeat' first|exact trivial|exact rfl|exact .inl rfl|exact .inr ⟨rfl,rfl⟩|refine And.intro ?_ ?_);done));conv=>whnf)
  (refine st_call h2 ?_ rfl rfl ?_;(focus ((repeat' first|exact trivial|exact rfl|exact .inl rfl|exact .inr ⟨rfl,rfl⟩|refine And.intro ?_ ?_);done));conv=>whnf)
  (refine st_call h3 ?_ rfl rfl ?_;(focus ((repeat' first|exact trivial|exact rfl|exact .inl rfl|exact .inr ⟨rfl,rfl⟩|refine And.intro ?_ ?_);done));conv=>whnf)
  refine⟨rfl,cmp_true (by rw[List.length_map];omega) ?_⟩
  conv=>whnf
  (refine st_call h4 ?_ rfl rfl ?_;(focus ((repeat' first|exact trivial|exact rfl|exact .inl rfl|exact .inr ⟨rfl,rfl⟩|refine And.intro ?_ ?_);done));conv=>whnf)
  refine st_app (by simp) (by intro c hc;simp at hc;rw[hc];rfl) (show _=([numN r.code,leafN 4 r.dn,leafN 4 r.text]++[leavesN 163 r.refs]).map cM from rfl) ?_
  conv=>whnf
  (focus ((repeat' first|exact trivial|exact rfl|exact .inl rfl|exact .inr ⟨rfl,rfl⟩|refine And.intro ?_ ?_);done))
 ·rw[if_neg h0]
  refine fnI_prog tabOk mixed Tryz.f28 [] (fun k=>match Nat.beq k 200 with | true=>21 | false=>33+k) Tryz.func28 (by kernel_rfl) (by kernel_rfl) rfl rfl ?_
  conv=>whnf
  (refine st_call hc ?_ rfl rfl ?_;(focus ((repeat' first|exact trivial|exact rfl|exact .inl rfl|exact .inr ⟨rfl,rfl⟩|refine And.intro ?_ ?_);done));conv=>whnf)
  refine⟨some [0,1,3,4,6,7,2,5,8,9,10],by kernel_rfl,?_⟩;conv=>whnf
  (refine st_call h1 ?_ rfl rfl ?_;(focus ((repeat' first|exact trivial|exact rfl|exact .inl rfl|exact .inr ⟨rfl,rfl⟩|refine And.intro ?_ ?_);done));conv=>whnf)
  (refine st_call h2 ?_ rfl rfl ?_;(focus ((repeat' first|exact trivial|exact rfl|exact .inl rfl|exact .inr ⟨rfl,rfl⟩|refine And.intro ?_ ?_);done));conv=>whnf)
  (refine st_call h3 ?_ rfl rfl ?_;(focus ((repeat' first|exact trivial|exact rfl|exact .inl rfl|exact .inr ⟨rfl,rfl⟩|refine And.intro ?_ ?_);done));conv=>whnf)
  refine⟨rfl,cmp_false (by rw[List.length_map];omega) ?_⟩
  conv=>whnf
  (focus ((repeat' first|exact trivial|exact rfl|exact .inl rfl|exact .inr ⟨rfl,rfl⟩|refine And.intro ?_ ?_);done))
def k0(m:Msg)(s:Shp):List Nd:=if s.res=true then resN m.result else []
def k1(m:Msg)(s:Shp):List Nd:=k0 m s++if s.ent=true then [leafN 4 m.dn,.mk 48 (bt' []) (m.attrs.map attN)] else []
def k2(m:Msg)(s:Shp)(i:Nat):List Nd:=k1 m s++(m.refs.take i).map (leafN 4)
def k3(m:Msg)(s:Shp):List Nd:=k2 m s m.refs.length++if m.ext.oid.size=0 then [] else [leafN s.oidT m.ext.oid]
theorem k3_eq(m:Msg)(s:Shp):kidsN m s=k3 m s++if m.ext.has=true then [leafN s.valT m.ext.val] else []:=by
 unfold kidsN k3 k2 k1 k0
 rw[List.take_length]
 simp only[List.append_assoc]
theorem k0_len(m:Msg)(s:Shp):(k0 m s).length≤4:=by
 unfold k0
 split
 ·exact resN_len _
 ·simp
theorem k1_len(m:Msg)(s:Shp):(k1 m s).length≤6:=by
 unfold k1
 rw[List.length_append]
 have:=k0_len m s
 split <;> simp <;> omega
theorem map_cM(l:List Nd):l.map cM=l.map cN:=List.map_congr_left fun x _=>(cM_eq x).symm
set_option maxHeartbeats 16000000 in
theorem kids_fn(m:Msg)(s:Shp)(h:repS m=some s)(hm:midM m):Fn Tryz.prog (envX p) 74 [.v (.agg (cMsg m++cShp s))] (.v (.sl ((kidsN m s).map cM))):=by
 obtain⟨hs,hO,hM⟩:=repS_some h
 unfold mayB at hM
 simp only[Bool.and_eq_true,Bool.or_eq_true,decide_eq_true_eq,List.all_eq_true] at hM
 obtain⟨r1,_,_,⟨rl,r3⟩,⟨rr,_⟩,_⟩:=hM
 have hN:∀c∈[cM nd0],c.length=3:=fun c hc=>by simp at hc;rw[hc];rfl
 refine fn_cut (tab_nw tabOk [28]) mixed Tryz.f74 Tryz.func74 (by kernel_rfl) (by kernel_rfl) ?_
 refine .seq [] ⟨101,[(1,.ptr 1 0)],[(1,bX m s)],[]⟩ ?_ ?_
 ·conv=>whnf
  (focus ((repeat' first|exact trivial|exact rfl|exact .inl rfl|exact .inr ⟨rfl,rfl⟩|refine And.intro ?_ ?_);done))
 refine .seq [(200,some 200)] ⟨101,[(1,.ptr 1 0),(3,.own 200 29 ((resN m.result).map cM))],[(1,bX m s)],[(200,some 29)]⟩ ?_ ?_
 ·conv=>whnf
  refine st_callN [] (result_own p m.result hm.result r1 m s) ?_ rfl ?_
  ·(focus ((repeat' first|exact trivial|exact rfl|exact .inl rfl|exact .inr ⟨rfl,rfl⟩|refine And.intro ?_ ?_);done))
  conv=>whnf
  (focus ((repeat' first|exact trivial|exact rfl|exact .inl rfl|exact .inr ⟨rfl,rfl⟩|refine And.intro ?_ ?_);done))
 have hr:∃e,(k0 m s=resN m.result∧s.res=true∧e=some 200)∨(k0 m s=[]∧s.res=false∧e=none):=by
  unfold k0
  cases hq:s.res
  ·exact⟨_,.inr ⟨by simp,rfl,rfl⟩⟩
  ·exact⟨_,.inl ⟨by simp,rfl,rfl⟩⟩
 obtain⟨e,hr⟩:=hr
 refine .seq [(201,e)] ⟨101,[(1,.ptr 1 0),(3,.own 201 29 ((k0 m s).map cM))],[(1,bX m s)],[(201,some 29)]⟩ ?_ ?_
 ·rcases hr with⟨q1,q2,rfl⟩ | ⟨q1,q2,rfl⟩
  ·rw[q1]
   conv=>whnf
   rw[q2]
   conv=>whnf
   (focus ((repeat' first|exact trivial|exact rfl|exact .inl rfl|exact .inr ⟨rfl,rfl⟩|refine And.intro ?_ ?_);done))
  ·rw[q1]
   conv=>whnf
   rw[q2]
   conv=>whnf
   (focus ((repeat' first|exact trivial|exact rfl|exact .inl rfl|exact .inr ⟨rfl,rfl⟩|refine And.intro ?_ ?_);done))
 have hr:∃e,(k1 m s=k0 m s∧s.ent=false∧e=some 201)∨(k1 m s=k0 m s++[leafN 4 m.dn,.mk 48 (bt' []) (m.attrs.map attN)]∧s.ent=true∧e=some 54):=by
  unfold k1
  cases hq:s.ent
  ·exact⟨_,.inl ⟨by simp,rfl,rfl⟩⟩
  ·exact⟨_,.inr ⟨by simp,rfl,rfl⟩⟩
 obtain⟨e,hr⟩:=hr
 have hl0:=k0_len m s
 refine .seq [(202,e)] ⟨101,[(1,.ptr 1 0),(3,.own 202 29 ((k1 m s).map cM))],[(1,bX m s)],[(202,some 29)]⟩ ?_ ?_
 ·rcases hr with⟨q1,q2,rfl⟩ | ⟨q1,q2,rfl⟩
  ·rw[q1]
   conv=>whnf
   rw[q2]
   conv=>whnf
   (focus ((repeat' first|exact trivial|exact rfl|exact .inl rfl|exact .inr ⟨rfl,rfl⟩|refine And.intro ?_ ?_);done))
  ·rw[q1]
   conv=>whnf
   rw[q2]
   conv=>whnf
   refine⟨Nat,fun i=>⟨101,[(1,.ptr 1 0),(3,.own 201 29 ((k0 m s).map cM)),(5,.ptr 5 0),(29,.v (.sl (m.attrs.map cAtt))),(30,.v (.int .i64 ((m.attrs.map cAtt).length:Nat))),(31,.v (.int .i64 (i:Nat)))],[(1,bX m s),(5,[.v (.int .i64 48),.v (.str (bt' [])),.own 44 29 ((m.attrs.take i).map fun a=>cM (attN a))])],[(44,some 29),(201,some 29)]⟩,fun i=>i≤m.attrs.length,fun i=>m.attrs.length - i,⟨0,[(44,none),(201,some 201)],Nat.zero_le _,?_⟩,fun i hi=>?_⟩
   ·(focus ((repeat' first|exact trivial|exact rfl|exact .inl rfl|exact .inr ⟨rfl,rfl⟩|refine And.intro ?_ ?_);done))
   conv=>whnf
   refine⟨rfl,cmp_split (fun h=>?_) (fun h=>?_)⟩ <;> rw[List.length_map] at h
   ·have hil:i < m.attrs.length:=by omega
    have hA:=Attr_fn p m.attrs[i] 0 (hm.attrs.2 _ (List.getElem_mem hil))
    unfold AttT at hA
    rw[if_pos (r3 _ (List.getElem_mem hil))] at hA
    conv=>whnf
    refine st_idx hil rfl ?_
    conv=>whnf
    (refine st_call hA ?_ rfl rfl ?_;(focus ((repeat' first|exact trivial|exact rfl|exact .inl rfl|exact .inr ⟨rfl,rfl⟩|refine And.intro ?_ ?_);done));conv=>whnf)
    refine st_app (by simp;omega) (by intro c hc;simp at hc;rw[hc];rfl) (show((m.attrs.take i).map fun a=>cM (attN a))++[cM (attN m.attrs[i])]=((m.attrs.take (i+1)).map fun a=>cM (attN a)) from map_take_succ (enc:=fun a=>cM (attN a)) hil) ?_
    conv=>whnf
    refine⟨rfl,st_succ (by omega) ?_⟩
    conv=>whnf
    refine⟨i+1,[(44,some 44),(201,some 201)],hil,by dsimp only;omega,?_⟩
    (focus ((repeat' first|exact trivial|exact rfl|exact .inl rfl|exact .inr ⟨rfl,rfl⟩|refine And.intro ?_ ?_);done))
   ·have hie:m.attrs.take i=m.attrs:=List.take_of_length_le (by omega)
    conv=>whnf
    rw[hie]
    refine⟨some [0,1,2,3,5,4,6,7,8],by kernel_rfl,?_⟩;conv=>whnf
    (refine st_call (leaf_fn 4 m.dn) ?_ rfl rfl ?_;(focus ((repeat' first|exact trivial|exact rfl|exact .inl rfl|exact .inr ⟨rfl,rfl⟩|refine And.intro ?_ ?_);done));conv=>whnf)
    refine st_app (by simp;omega) (by intro c hc;simp at hc;rcases hc with rfl | rfl <;> rfl) (show(k0 m s).map cM++[cM (leafN 4 m.dn),[.int .i64 48,.str (bt' []),.sl (m.attrs.map fun a=>cM (attN a))]]=(k0 m s++[leafN 4 m.dn,.mk 48 (bt' []) (m.attrs.map attN)]).map cM from by
     rw[List.map_append]
     congr 1
     show [cM (leafN 4 m.dn),[V.int .i64 48,.str (bt' []),.sl (m.attrs.map fun a=>cM (attN a))]]=[cM (leafN 4 m.dn),[V.int .i64 48,.str (bt' []),.sl ((m.attrs.map attN).map cN)]]
     rw[←map_cM,List.map_map]
     rfl) ?_
    conv=>whnf
    (focus ((repeat' first|exact trivial|exact rfl|exact .inl rfl|exact .inr ⟨rfl,rfl⟩|refine And.intro ?_ ?_);done))
 have hl1:=k1_len m s
 refine .seq [(203,some 67)] ⟨101,[(1,.ptr 1 0),(3,.own 203 29 ((k2 m s m.refs.length).map cM))],[(1,bX m s)],[(203,some 29)]⟩ ?_ ?_
 ·conv=>whnf
  refine⟨Nat,fun i=>⟨101,[(1,.ptr 1 0),(3,.own 67 29 ((k2 m s i).map cM)),(57,.v (.sl (m.refs.map encS))),(58,.v (.int .i64 ((m.refs.map encS).length:Nat))),(59,.v (.int .i64 (i:Nat)))],[(1,bX m s)],[(67,some 29)]⟩,fun i=>i≤m.refs.length,fun i=>m.refs.length - i,⟨0,[(67,some 202)],Nat.zero_le _,?_⟩,fun i hi=>?_⟩
  ·rw[show k1 m s=k2 m s 0 from(List.append_nil _).symm]
   (focus ((repeat' first|exact trivial|exact rfl|exact .inl rfl|exact .inr ⟨rfl,rfl⟩|refine And.intro ?_ ?_);done))
  conv=>whnf
  refine⟨rfl,cmp_split (fun h=>?_) (fun h=>?_)⟩ <;> rw[List.length_map] at h
  ·have hil:i < m.refs.length:=by omega
   conv=>whnf
   refine st_idx hil rfl ?_
   conv=>whnf
   (refine st_call (leaf_fn 4 m.refs[i]) ?_ rfl rfl ?_;(focus ((repeat' first|exact trivial|exact rfl|exact .inl rfl|exact .inr ⟨rfl,rfl⟩|refine And.intro ?_ ?_);done));conv=>whnf)
   refine st_app (by unfold k2;simp;omega) (by intro c hc;simp at hc;rw[hc];rfl) (show(k2 m s i).map cM++[cM (leafN 4 m.refs[i])]=(k2 m s (i+1)).map cM from by unfold k2;rw[List.take_succ_eq_append_getElem hil,List.map_append,List.map_append,List.map_append,List.map_append,List.append_assoc];rfl) ?_
   conv=>whnf
   refine⟨rfl,st_succ (by omega) ?_⟩
   conv=>whnf
   refine⟨i+1,[(67,some 67)],hil,by dsimp only;omega,?_⟩
   (focus ((repeat' first|exact trivial|exact rfl|exact .inl rfl|exact .inr ⟨rfl,rfl⟩|refine And.intro ?_ ?_);done))
  ·have hie:i=m.refs.length:=by omega
   subst hie
   conv=>whnf
   (focus ((repeat' first|exact trivial|exact rfl|exact .inl rfl|exact .inr ⟨rfl,rfl⟩|refine And.intro ?_ ?_);done))
 have hl2:(k2 m s m.refs.length).length≤9:=by unfold k2;simp;omega
 have hr:∃e,(k3 m s=k2 m s m.refs.length∧m.ext.oid.size=0∧e=some 203)∨(k3 m s=k2 m s m.refs.length++[leafN s.oidT m.ext.oid]∧¬m.ext.oid.size=0∧e=some 84):=by
  unfold k3
  by_cases hq:m.ext.oid.size=0
  ·exact⟨_,.inl ⟨by simp[hq],hq,rfl⟩⟩
  ·exact⟨_,.inr ⟨by simp[hq],hq,rfl⟩⟩
 obtain⟨e,hr⟩:=hr
 have hl3:(k3 m s).length≤10:=by unfold k3;rw[List.length_append];split <;> simp <;> omega
 refine .seq [(204,e)] ⟨101,[(1,.ptr 1 0),(3,.own 204 29 ((k3 m s).map cM))],[(1,bX m s)],[(204,some 29)]⟩ ?_ ?_
 ·rcases hr with⟨q1,q2,rfl⟩ | ⟨q1,q2,rfl⟩
  ·rw[q1]
   conv=>whnf
   refine cmp_false (fun e=>e (Fi.size0.1 q2)) ?_
   conv=>whnf
   (focus ((repeat' first|exact trivial|exact rfl|exact .inl rfl|exact .inr ⟨rfl,rfl⟩|refine And.intro ?_ ?_);done))
  ·rw[q1]
   conv=>whnf
   refine cmp_true (fun e=>q2 (Fi.size0.2 e)) ?_
   conv=>whnf
   (refine st_call (leaf_fn s.oidT m.ext.oid) ?_ rfl rfl ?_;(focus ((repeat' first|exact trivial|exact rfl|exact .inl rfl|exact .inr ⟨rfl,rfl⟩|refine And.intro ?_ ?_);done));conv=>whnf)
   refine st_app (by simp;omega) (by intro c hc;simp at hc;rw[hc];rfl) (show(k2 m s m.refs.length).map cM++[cM (leafN s.oidT m.ext.oid)]=(k2 m s m.refs.length++[leafN s.oidT m.ext.oid]).map cM from by rw[List.map_append];rfl) ?_
   conv=>whnf
   (focus ((repeat' first|exact trivial|exact rfl|exact .inl rfl|exact .inr ⟨rfl,rfl⟩|refine And.intro ?_ ?_);done))
 refine .base ?_
 rw[k3_eq]
 conv=>whnf
 cases hh:m.ext.has <;> (conv=>whnf)
 ·rw[if_neg (by decide),List.append_nil]
  (focus ((repeat' first|exact trivial|exact rfl|exact .inl rfl|exact .inr ⟨rfl,rfl⟩|refine And.intro ?_ ?_);done))
 ·rw[if_pos rfl]
  (refine st_call (leaf_fn s.valT m.ext.val) ?_ rfl rfl ?_;(focus ((repeat' first|exact trivial|exact rfl|exact .inl rfl|exact .inr ⟨rfl,rfl⟩|refine And.intro ?_ ?_);done));conv=>whnf)
  refine st_app (by simp;omega) (by intro c hc;simp at hc;rw[hc];rfl) (show(k3 m s).map cM++[cM (leafN s.valT m.ext.val)]=(k3 m s++[leafN s.valT m.ext.val]).map cM from by rw[List.map_append];rfl) ?_
  conv=>whnf
  (focus ((repeat' first|exact trivial|exact rfl|exact .inl rfl|exact .inr ⟨rfl,rfl⟩|refine And.intro ?_ ?_);done))
def treeT(m:Msg):T:=match repS m with
 | some s=>.tup [.v (.agg (cM (repN m s))),.v (.int .i64 0)]
 | none=>.tup [.v (.agg (cM nd0)),.v (.int .i64 120)]
set_option maxRecDepth 100000 in
set_option maxHeartbeats 4000000 in
theorem Tree_fn(m:Msg)(hm:midM m)(h1:m.search.filt.any.length≤100000000)(h2:m.search.filt.l.length≤100000000):Fn Tryz.prog (envX p) 37 [.v (.agg (cMsg m))] (treeT m):=by
 have hc:=checked_fn p m hm h1 h2
 unfold repT at hc
 unfold treeT
 cases h:repS m with
 | none=>
  rw[h] at hc
  refine fn_prog (tab_nz tabOk) mixed Tryz.f37 Tryz.func37 (by kernel_rfl) (by kernel_rfl) ?_
  conv=>whnf
  (refine st_call hc ?_ rfl rfl ?_;(focus ((repeat' first|exact trivial|exact rfl|exact .inl rfl|exact .inr ⟨rfl,rfl⟩|refine And.intro ?_ ?_);done));conv=>whnf)
  (refine st_call (told_wrong_fn p m.op) ?_ rfl rfl ?_;(focus ((repeat' first|exact trivial|exact rfl|exact .inl rfl|exact .inr ⟨rfl,rfl⟩|refine And.intro ?_ ?_);done));conv=>whnf)
  (focus ((repeat' first|exact trivial|exact rfl|exact .inl rfl|exact .inr ⟨rfl,rfl⟩|refine And.intro ?_ ?_);done))
 | some s=>
  rw[h] at hc
  have hk:=kids_fn p m s h hm
  rw[map_cM] at hk
  have hw:0≤m.op∧m.op≤25:=by rcases shape_eq (repS_some h).1 with⟨e,_⟩ | ⟨e,_⟩ | ⟨e,_⟩ | ⟨e,_⟩ | ⟨e,_⟩ | ⟨e,_⟩ <;> omega
  refine fn_prog tabOk mixed Tryz.f37 Tryz.func37 (by kernel_rfl) (by kernel_rfl) ?_
  conv=>whnf
  (refine st_call hc ?_ rfl rfl ?_;(focus ((repeat' first|exact trivial|exact rfl|exact .inl rfl|exact .inr ⟨rfl,rfl⟩|refine And.intro ?_ ?_);done));conv=>whnf)
  refine⟨none,by kernel_rfl,?_⟩;conv=>whnf
  refine⟨rfl,96+m.op,wrap64 (by omega) (by omega),?_⟩
  conv=>whnf
  (refine st_call hk ?_ rfl rfl ?_;(focus ((repeat' first|exact trivial|exact rfl|exact .inl rfl|exact .inr ⟨rfl,rfl⟩|refine And.intro ?_ ?_);done));conv=>whnf)
  (focus ((repeat' first|exact trivial|exact rfl|exact .inl rfl|exact .inr ⟨rfl,rfl⟩|refine And.intro ?_ ?_);done))
end Go.Proofs.YtknelogmocedeaaGreatDoor.Rp
