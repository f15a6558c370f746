/- The statement RepCodes of latinerlaw12, walked. -/
import Derived.Test.YtknelogmocedeaaGreatDoorR35
namespace Go.Proofs.YtknelogmocedeaaGreatDoor.Rp
open Go.RowKit Go.Shelf Go.Lib Tl Pr Pa Ms
open Fl (bl bt' bl_bt bl_of size_bl Flt)
open Fi (one_arg encS cF cG midF all_take_succ all_bad)
set_option linter.unusedVariables false
variable (p : Nat → Addr)
def codeR(c:Int):Res:=⟨c,bt' [],bt' [],[]⟩
def codeM(c op:Int):Msg:={msgO op with result:=codeR c}
theorem codeR_res(c:Int):resB (codeR c)=true↔0≤c∧c≤200∧c≠10:=by
 have h1:dnB (bt' [])=true:=by decide+kernel
 have h2:Utf.utfB (bt' [])=true:=by decide+kernel
 have h3:decide ((bt' []).size≤60)=true:=by decide+kernel
 have h4:refsB []=true:=by decide+kernel
 show(decide (0≤c)&&(decide (c≤200)&&(dnB (bt' [])&&(Utf.utfB (bt' [])&&(decide ((bt' []).size≤60)&&(refsB []&&decide (c=10↔0 < ([]:List ByteArray).length)))))))=true↔_
 rw[h1,h2,h3,h4]
 simp
theorem codeM_not(c op:Int):notReq (codeM c op)=true:=by
 rw[notReq_iff]
 exact⟨⟨rfl,rfl,rfl,rfl,rfl,rfl⟩,⟨rfl,rfl,rfl,rfl,rfl⟩,rfl,rfl,rfl,rfl,rfl,rfl⟩
theorem codeM_only(c op:Int)(s:Shp):onlyB (codeM c op) s=true↔s.res=true∨c=0:=by
 have h1:emptyR (codeM c op).result=decide (c=0):=by
  show(decide (c=0)&&(decide ((bt' []).size=0)&&(decide ((bt' []).size=0)&&decide (([]:List ByteArray)=[]))))=_
  rw[show decide ((bt' []).size=0)=true from by decide+kernel]
  simp
 unfold onlyB
 rw[codeM_not,h1,show(codeM c op).ext=xt0 from rfl,show(codeM c op).dn=bt' [] from rfl,show(codeM c op).attrs=[] from rfl,show(codeM c op).refs=[] from rfl,show xt0.has=false from rfl,show decide (xt0.val.size=0)=true from by decide+kernel,show decide (xt0.oid.size=0)=true from by decide+kernel,show decide ((bt' []).size=0)=true from by decide+kernel]
 simp
theorem codeM_may(c op:Int)(s:Shp):mayB (codeM c op) s=true↔(0≤c∧c≤200∧c≠10)∧s.refs=false:=by
 unfold mayB
 rw[Bool.and_eq_true,show(codeM c op).result=codeR c from rfl,codeR_res,show(codeM c op).ext=xt0 from rfl,show(codeM c op).dn=bt' [] from rfl,show(codeM c op).attrs=[] from rfl,show(codeM c op).refs=[] from rfl,show decide (xt0.val.size≤200)=true from by decide+kernel,show decide (xt0.val.size=0)=true from by decide+kernel,show decide (xt0.oid.size=0)=true from by decide+kernel,show dnB (bt' [])=true from by decide+kernel]
 simp
def plainP(op:Int):Prop:=op=24∨op=1∨op=5∨op=7∨op=9∨op=11∨op=13∨op=15
theorem code_some{c op:Int}{s:Shp}(h:repS (codeM c op)=some s):0≤c∧c≤200∧c≠10∧(plainP op∨(op=4∨op=25)∧c=0):=by
 obtain⟨h1,h2,h3⟩:=repS_some h
 rw[codeM_only] at h2
 rw[codeM_may] at h3
 obtain⟨⟨g1,g2,g3⟩,g4⟩:=h3
 refine⟨g1,g2,g3,?_⟩
 unfold plainP
 rcases shape_eq h1 with⟨e,rfl⟩ | ⟨e,rfl⟩ | ⟨e,rfl⟩ | ⟨e,rfl⟩ | ⟨e,rfl⟩ | ⟨e,rfl⟩
 ·have e:op=24:=e;omega
 ·have e:op=1:=e;omega
 ·have e:op=5∨op=7∨op=9∨op=11∨op=13∨op=15:=e;omega
 ·have e:op=4:=e
  have:c=0:=h2.elim (fun h=>by cases h) id
  omega
 ·cases g4
 ·have e:op=25:=e
  have:c=0:=h2.elim (fun h=>by cases h) id
  omega
theorem code_none{c op:Int}(h:repS (codeM c op)=none)(hp:plainP op):¬(0≤c∧c≤200∧c≠10):=by
 intro hc
 have key:∀s:Shp,shapeF op=some s→s.res=true→s.refs=false→False:=by
  intro s h1 h2 h3
  unfold repS at h
  rw[show(codeM c op).op=op from rfl,h1] at h
  dsimp only at h
  rw[if_pos ⟨(codeM_only c op s).2 (.inl h2),(codeM_may c op s).2 ⟨hc,h3⟩⟩] at h
  cases h
 unfold plainP at hp
 by_cases e1:op=24
 ·exact key _ (by unfold shapeF;rw[if_pos e1]) rfl rfl
 by_cases e2:op=1
 ·exact key _ (by unfold shapeF;rw[if_neg e1,if_pos e2]) rfl rfl
 ·exact key _ (by unfold shapeF;rw[if_neg e1,if_neg e2,if_pos (by omega)]) rfl rfl
theorem is_cases(op:Int):(plainP op∧(shapeF op).isSome=true)∨((op=4∨op=19∨op=25)∧(shapeF op).isSome=true)∨((¬plainP op∧op≠4∧op≠19∧op≠25)∧(shapeF op).isSome=false):=by
 unfold plainP
 cases h:shapeF op with
 | none=>
  refine .inr (.inr ⟨?_,rfl⟩)
  unfold shapeF at h
  refine⟨fun e=>?_,fun e=>?_,fun e=>?_,fun e=>?_⟩
  ·by_cases e1:op=24
   ·rw[if_pos e1] at h;cases h
   by_cases e2:op=1
   ·rw[if_neg e1,if_pos e2] at h;cases h
   ·rw[if_neg e1,if_neg e2,if_pos (by omega)] at h;cases h
  ·subst e;exact absurd h (by decide)
  ·subst e;exact absurd h (by decide)
  ·subst e;exact absurd h (by decide)
 | some s=>
  rcases shape_eq h with⟨e,_⟩ | ⟨e,_⟩ | ⟨e,_⟩ | ⟨e,_⟩ | ⟨e,_⟩ | ⟨e,_⟩
  ·exact .inl ⟨by omega,rfl⟩
  ·exact .inl ⟨by omega,rfl⟩
  ·exact .inl ⟨by omega,rfl⟩
  ·exact .inr (.inl ⟨by omega,rfl⟩)
  ·exact .inr (.inl ⟨by omega,rfl⟩)
  ·exact .inr (.inl ⟨by omega,rfl⟩)
theorem codeM_mid(c op:Int):midM (codeM c op):=midM_O op (bt' []) (by decide) xt0 (codeR c) (midR_code c)
set_option maxHeartbeats 16000000 in
set_option maxRecDepth 100000 in
theorem codes_law(c op:Int):Fn Tryz.prog (envX p) 9 [.v (.int .i64 c),.v (.int .i64 op)] (.v (.bool true)):=by
  have h1:=Tree_fn p (codeM c op) (codeM_mid c op) (filt_len (codeM_mid c op)).1 (filt_len (codeM_mid c op)).2
  have h3:=is_fn (X:=envX p) op
  unfold treeT at h1
  cases hS:repS (codeM c op) with
  | none =>
    rw[hS] at h1
    have hr:=read_nd0 p
    have hp:=fun h=>code_none hS h
    have key:∀f:Bool→Prop,True:=fun _=>trivial
    unfold plainP at hp
    have hcases:(∃b,(shapeF op).isSome=b∧((b=true∧(op≠4∧op≠19∧op≠25)∧¬(0≤c∧c≤200∧c≠10))∨(b=true∧op=4)∨(b=true∧op=19)∨(b=true∧op=25)∨(b=false∧op≠4∧op≠19∧op≠25))):=by
      rcases is_cases op with⟨a,b⟩ | ⟨a,b⟩ | ⟨a,b⟩
      · refine⟨_,b,.inl ⟨rfl,?_,hp a⟩⟩
        unfold plainP at a
        omega
      · refine⟨_,b,?_⟩
        rcases a with a | a | a
        · exact .inr (.inl ⟨rfl,a⟩)
        · exact .inr (.inr (.inl ⟨rfl,a⟩))
        · exact .inr (.inr (.inr (.inl ⟨rfl,a⟩)))
      · exact⟨_,b,.inr (.inr (.inr (.inr ⟨rfl,a.2⟩)))⟩
    obtain⟨b,hb,hcases⟩:=hcases
    rw[hb] at h3
    have split:(0≤c∧c≤200∧c≠10∧c≠0)∨c=0∨c < 0∨200 < c∨c=10:=by omega
    rcases hcases with⟨rfl,a,a'⟩ | ⟨rfl,rfl⟩ | ⟨rfl,rfl⟩ | ⟨rfl,rfl⟩ | ⟨rfl,a⟩ <;> rcases split with q | q | q | q | q
    all_goals first
      | (exact absurd (show 0≤c∧c≤200∧c≠10 by omega) (by assumption))
      | (refine fn_prog (tab_nz tabOk) mixed Tryz.f9 Tryz.func9 (by kernel_rfl) (by kernel_rfl) ?_
         conv=>whnf
         (refine st_call (shown_fn p) ?_ rfl rfl ?_;(focus ((repeat' first|exact trivial|exact rfl|exact .inl rfl|exact .inr ⟨rfl,rfl⟩|refine And.intro ?_ ?_);done));conv=>whnf)
         (refine st_call h1 ?_ rfl rfl ?_;(focus ((repeat' first|exact trivial|exact rfl|exact .inl rfl|exact .inr ⟨rfl,rfl⟩|refine And.intro ?_ ?_);done));conv=>whnf)
         (refine st_call hr ?_ rfl rfl ?_;(focus ((repeat' first|exact trivial|exact rfl|exact .inl rfl|exact .inr ⟨rfl,rfl⟩|refine And.intro ?_ ?_);done));conv=>whnf)
         (repeat' (first | (((with_reducible apply st_call (h3));(focus ((repeat' first|exact trivial|exact rfl|exact .inl rfl|exact .inr ⟨rfl,rfl⟩|refine And.intro ?_ ?_);done));(focus (exact rfl));(focus (exact rfl))) <;> (conv=>whnf)) | ((refine⟨rfl,cmp_true (by omega) ?_⟩) <;> (conv=>whnf)) | ((refine⟨rfl,cmp_false (by omega) ?_⟩) <;> (conv=>whnf)) | ((refine cmp_true rfl ?_) <;> (conv=>whnf)) | fail))
         (focus ((repeat' first|exact trivial|exact rfl|exact .inl rfl|exact .inr ⟨rfl,rfl⟩|refine And.intro ?_ ?_);done))
         done)
  | some s=>
    rw[hS] at h1
    have hr:=read_of p hS (codeM_mid c op)
    obtain⟨g1,g2,g3,g4⟩:=code_some hS
    have hs:(shapeF op).isSome=true:=by
      have:=(repS_some hS).1
      rw[show(codeM c op).op=op from rfl] at this
      rw[this];rfl
    rw[hs] at h3
    unfold plainP at g4
    have split:(c≠0∧op≠4∧op≠19∧op≠25)∨(c=0∧op≠4∧op≠19∧op≠25)∨(c=0∧op=4)∨(c=0∧op=25):=by omega
    clear g4
    have f1:(codeM c op).op=op:=rfl
    have f2:(codeM c op).result.code=c:=rfl
    rcases split with q | q | q | q
    all_goals
      refine fn_prog (tab_nz tabOk) mixed Tryz.f9 Tryz.func9 (by kernel_rfl) (by kernel_rfl) ?_
      conv=>whnf
      (refine st_call (shown_fn p) ?_ rfl rfl ?_;(focus ((repeat' first|exact trivial|exact rfl|exact .inl rfl|exact .inr ⟨rfl,rfl⟩|refine And.intro ?_ ?_);done));conv=>whnf)
      (refine st_call h1 ?_ rfl rfl ?_;(focus ((repeat' first|exact trivial|exact rfl|exact .inl rfl|exact .inr ⟨rfl,rfl⟩|refine And.intro ?_ ?_);done));conv=>whnf)
      (refine st_call hr ?_ rfl rfl ?_;(focus ((repeat' first|exact trivial|exact rfl|exact .inl rfl|exact .inr ⟨rfl,rfl⟩|refine And.intro ?_ ?_);done));conv=>whnf)
      (repeat' (first | (((with_reducible apply st_call (h3));(focus ((repeat' first|exact trivial|exact rfl|exact .inl rfl|exact .inr ⟨rfl,rfl⟩|refine And.intro ?_ ?_);done));(focus (exact rfl));(focus (exact rfl))) <;> (conv=>whnf)) | ((refine⟨rfl,cmp_true (by omega) ?_⟩) <;> (conv=>whnf)) | ((refine⟨rfl,cmp_false (by omega) ?_⟩) <;> (conv=>whnf)) | ((refine cmp_true rfl ?_) <;> (conv=>whnf)) | fail))
      (focus ((repeat' first|exact trivial|exact rfl|exact .inl rfl|exact .inr ⟨rfl,rfl⟩|refine And.intro ?_ ?_);done))
end Go.Proofs.YtknelogmocedeaaGreatDoor.Rp
