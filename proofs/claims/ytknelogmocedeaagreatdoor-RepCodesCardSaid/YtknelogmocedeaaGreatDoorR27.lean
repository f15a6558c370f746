/- Several texts, one behind the other. part, walked: trees of texts; controls. Conditions: as in these contracts. part, walked: controls of trees. Conditions: at most 10^8 in one tree. tlv, walked: which trees are ones, but for what is in them; equality of trees. Conditions: at most 10^8 in one. part, walked: controls of trees, attributes' trees. Conditions: at most 10^8 in one tree; at most 10^8 values. -/
import Derived.Test.YtknelogmocedeaaGreatDoorR26
import Derived.Test.YtknelogmocedeaaGreatDoorR22
import Derived.Test.YtknelogmocedeaaGreatDoorR25
namespace Go.Proofs.YtknelogmocedeaaGreatDoor.Pa
open Go.RowKit Go.Shelf Go.Lib Tl Pr
open Fl (bl bt' bl_bt bl_of size_bl)
open Fi (one_arg encS all_take_succ all_bad)
set_option linter.unusedVariables false
variable {X : En} (p : Nat → Addr)
theorem fn_of_m{P:Program}{f:FuncId}{args:List T}{r:T}(h:FnM P X f [] args r []):Fn P X f args r:=by
 refine⟨h.1,fun w L vs hE hL ha=>(h.2.2 w _ vs hE hL memB_nil ha).mono fun e w' ⟨v,L',h1,h2,h3,h4,h5,_,_,h8⟩=>⟨v,L',h1,⟨h2.os,h2.tape,h2.output,h2.size,fun k hk=>h2.block k hk (fun⟨j,hj,_⟩=>absurd hj (Nat.not_lt_zero _))⟩,h3,h4,h5,h8⟩⟩
theorem texts_fn(tag:Int)(l:List ByteArray)(hl:l.length≤100000000):Fn Tryz.prog X 48 [.v (.int .i64 tag),.v (.sl (l.map encS))] (.v (.agg (cM (leavesN tag l)))):=by
 refine fn_prog tabOk mixed Tryz.f48 Tryz.func48 (by kernel_rfl) (by kernel_rfl) ?_
 conv=>whnf
 refine st_callN [] (r:=.v (.agg [.int .i64 tag,.str (bt' []),.nils])) (bs':=[(4,[.v (.int .i64 0),.v (.str (bt' [])),.v .nils])]) (lv':=[]) (args:=[.v (.int .i64 tag),.v .nils]) (FnI.of_fn (node_nil tag) rfl rfl) ?_ ?_ ?_
 ·(focus ((repeat' first|exact trivial|exact rfl|exact .inl rfl|exact .inr ⟨rfl,rfl⟩|refine And.intro ?_ ?_);done))
 ·rfl
 conv=>whnf
 refine⟨Nat,fun i=>⟨25,[(4,.ptr 4 0),(5,.ptr 5 0),(10,.v (.sl (l.map encS))),(11,.v (.int .i64 ((l.map encS).length:Nat))),(12,.v (.int .i64 (i:Nat)))],[(4,[.v (.int .i64 0),.v (.str (bt' [])),.v .nils]),(5,[.v (.int .i64 tag),.v (.str (bt' [])),.own 21 29 ((l.take i).map fun s=>cM (leafN 4 s))])],[(21,some 29)]⟩,fun i=>i≤l.length,fun i=>l.length - i,⟨0,[(21,none)],Nat.zero_le _,?_⟩,fun i hi=>?_⟩
 ·(focus ((repeat' first|exact trivial|exact rfl|exact .inl rfl|exact .inr ⟨rfl,rfl⟩|refine And.intro ?_ ?_);done))
 conv=>whnf
 refine⟨rfl,cmp_split (fun h=>?_) (fun h=>?_)⟩
 ·rw[List.length_map] at h
  have hil:i < l.length:=by omega
  conv=>whnf
  refine st_idx hil rfl ?_
  conv=>whnf
  refine⟨none,by kernel_rfl,?_⟩;conv=>whnf
  (refine st_call (text_fn l[i]) ?_ rfl rfl ?_;(focus ((repeat' first|exact trivial|exact rfl|exact .inl rfl|exact .inr ⟨rfl,rfl⟩|refine And.intro ?_ ?_);done));conv=>whnf)
  refine st_app (by simp;omega) (by intro c hc;simp at hc;rw[hc];rfl) (show((l.take i).map fun s=>cM (leafN 4 s))++[cM (leafN 4 l[i])]=((l.take (i+1)).map fun s=>cM (leafN 4 s)) from map_take_succ (enc:=fun s=>cM (leafN 4 s)) hil) ?_
  conv=>whnf
  refine⟨rfl,st_succ (by omega) ?_⟩
  conv=>whnf
  refine⟨i+1,[(21,some 21)],hil,by dsimp only;omega,?_⟩
  (focus ((repeat' first|exact trivial|exact rfl|exact .inl rfl|exact .inr ⟨rfl,rfl⟩|refine And.intro ?_ ?_);done))
 ·rw[List.length_map] at h
  have hie:i=l.length:=by omega
  subst hie
  conv=>whnf
  rw[List.take_length]
  refine⟨.inl ?_,rfl⟩
  show V.agg [.int .i64 tag,.str (bt' []),.sl (l.map fun s=>cM (leafN 4 s))]=.agg [.int .i64 tag,.str (bt' []),.sl ((l.map (leafN 4)).map cN)]
  rw[List.map_map]
  rfl
def cCtl(c:Ctl):List V:=[.str c.oid,.bool c.crit,.str c.val,.bool c.has]
def ctlS:ByteArray:=⟨#[99,111,110,116,114,111,108]⟩
theorem check_ctl(c:Ctl):Fn Tryz.prog (envX p) 57 [.v (.agg (cCtl c))] (.v (errU ctlS (ctlB c))):=by
 have ho:=oid_fn p c.oid
 have hs:=short_fn (X:=envX p) 200 [c.val] (by simp)
 have hu:=unless_fn (X:=envX p) ctlS [oidB c.oid,allSz 200 [c.val],c.has||decide (c.val.size=0)] (by simp)
 have he:[oidB c.oid,allSz 200 [c.val],c.has||decide (c.val.size=0)].all id=ctlB c:=by
  unfold ctlB allSz
  simp
 rw[he] at hu
 cases hc:ctlB c <;> rw[hc] at hu
 all_goals
  refine fn_prog tabOk mixed Tryz.f57 Tryz.func57 (by kernel_rfl) (by kernel_rfl) ?_
  conv=>whnf
  cases hh:c.has
  ·rw[hh] at hu
   by_cases hz:c.val.size=0
   ·rw[show(false||decide (c.val.size=0))=true from decide_eq_true hz] at hu
    have hz:=Fi.size0.1 hz
    (refine⟨some [9999],by kernel_rfl,⟨(.one 0 (.one 1 (.one 3 (.one 4 (.one 7 (.one 8 (.or (.one 2 (.one 5 (.one 6 (.one 9 (.one 10 (.one 11 (.one 12 (.one 13 (.one 14 (.one 15 (.one 16 .nil))))))))))) (.one 5 (.one 2 (.one 6 (.one 9 (.one 10 (.one 11 (.one 12 (.one 13 (.one 14 (.one 15 (.one 16 .nil)))))))))))))))))),by kernel_rfl,?_,?_,?_⟩⟩;rotate_left;(focus ((conv=>whnf);(repeat' (first | (((with_reducible apply st_call (ho));(focus ((repeat' first|exact trivial|exact rfl|exact .inl rfl|exact .inr ⟨rfl,rfl⟩|refine And.intro ?_ ?_);done));(focus (exact rfl));(focus (exact rfl))) <;> (conv=>whnf)) | (((with_reducible apply st_call (hs));(focus ((repeat' first|exact trivial|exact rfl|exact .inl rfl|exact .inr ⟨rfl,rfl⟩|refine And.intro ?_ ?_);done));(focus (exact rfl));(focus (exact rfl))) <;> (conv=>whnf)) | ((refine cmp_true hz ?_) <;> (conv=>whnf)) | (((with_reducible apply st_call (hu));(focus ((repeat' first|exact trivial|exact rfl|exact .inl rfl|exact .inr ⟨rfl,rfl⟩|refine And.intro ?_ ?_);done));(focus (exact rfl));(focus (exact rfl))) <;> (conv=>whnf)) | ((refine And.intro ?_ ?_) <;> (conv=>whnf)) | (exact St.le_refl _) | (refine⟨rfl,?_,?_,?_⟩ <;> (repeat' (first | exact trivial | (refine⟨rfl,?_⟩)));done) | fail)))));conv=>whnf
    (focus ((repeat' first|exact trivial|exact rfl|exact .inl rfl|exact .inr ⟨rfl,rfl⟩|refine And.intro ?_ ?_);done))
   ·rw[show(false||decide (c.val.size=0))=false from decide_eq_false hz] at hu
    have hz:=fun e=>hz (Fi.size0.2 e)
    (refine⟨some [9999],by kernel_rfl,⟨(.one 0 (.one 1 (.one 3 (.one 4 (.one 7 (.one 8 (.or (.one 2 (.one 5 (.one 6 (.one 9 (.one 10 (.one 11 (.one 12 (.one 13 (.one 14 (.one 15 (.one 16 .nil))))))))))) (.one 5 (.one 2 (.one 6 (.one 9 (.one 10 (.one 11 (.one 12 (.one 13 (.one 14 (.one 15 (.one 16 .nil)))))))))))))))))),by kernel_rfl,?_,?_,?_⟩⟩;rotate_left;(focus ((conv=>whnf);(repeat' (first | (((with_reducible apply st_call (ho));(focus ((repeat' first|exact trivial|exact rfl|exact .inl rfl|exact .inr ⟨rfl,rfl⟩|refine And.intro ?_ ?_);done));(focus (exact rfl));(focus (exact rfl))) <;> (conv=>whnf)) | (((with_reducible apply st_call (hs));(focus ((repeat' first|exact trivial|exact rfl|exact .inl rfl|exact .inr ⟨rfl,rfl⟩|refine And.intro ?_ ?_);done));(focus (exact rfl));(focus (exact rfl))) <;> (conv=>whnf)) | ((refine cmp_false hz ?_) <;> (conv=>whnf)) | (((with_reducible apply st_call (hu));(focus ((repeat' first|exact trivial|exact rfl|exact .inl rfl|exact .inr ⟨rfl,rfl⟩|refine And.intro ?_ ?_);done));(focus (exact rfl));(focus (exact rfl))) <;> (conv=>whnf)) | ((refine And.intro ?_ ?_) <;> (conv=>whnf)) | (exact St.le_refl _) | (refine⟨rfl,?_,?_,?_⟩ <;> (repeat' (first | exact trivial | (refine⟨rfl,?_⟩)));done) | fail)))));conv=>whnf
    (focus ((repeat' first|exact trivial|exact rfl|exact .inl rfl|exact .inr ⟨rfl,rfl⟩|refine And.intro ?_ ?_);done))
  ·rw[hh] at hu
   (refine⟨some [9999],by kernel_rfl,⟨(.one 0 (.one 1 (.one 3 (.one 4 (.one 7 (.one 8 (.or (.one 2 (.one 5 (.one 6 (.one 9 (.one 10 (.one 11 (.one 12 (.one 13 (.one 14 (.one 15 (.one 16 .nil))))))))))) (.one 5 (.one 2 (.one 6 (.one 9 (.one 10 (.one 11 (.one 12 (.one 13 (.one 14 (.one 15 (.one 16 .nil)))))))))))))))))),by kernel_rfl,?_,?_,?_⟩⟩;rotate_left;(focus ((conv=>whnf);(repeat' (first | (((with_reducible apply st_call (ho));(focus ((repeat' first|exact trivial|exact rfl|exact .inl rfl|exact .inr ⟨rfl,rfl⟩|refine And.intro ?_ ?_);done));(focus (exact rfl));(focus (exact rfl))) <;> (conv=>whnf)) | (((with_reducible apply st_call (hs));(focus ((repeat' first|exact trivial|exact rfl|exact .inl rfl|exact .inr ⟨rfl,rfl⟩|refine And.intro ?_ ?_);done));(focus (exact rfl));(focus (exact rfl))) <;> (conv=>whnf)) | (((with_reducible apply st_call (hu));(focus ((repeat' first|exact trivial|exact rfl|exact .inl rfl|exact .inr ⟨rfl,rfl⟩|refine And.intro ?_ ?_);done));(focus (exact rfl));(focus (exact rfl))) <;> (conv=>whnf)) | ((refine And.intro ?_ ?_) <;> (conv=>whnf)) | (exact St.le_refl _) | (refine⟨rfl,?_,?_,?_⟩ <;> (repeat' (first | exact trivial | (refine⟨rfl,?_⟩)));done) | fail)))));conv=>whnf
   (focus ((repeat' first|exact trivial|exact rfl|exact .inl rfl|exact .inr ⟨rfl,rfl⟩|refine And.intro ?_ ?_);done))
theorem tab_nz{P:Program}{tb:Tab}(h:TabOk P tb):TabOk P {tb with nzb:=true}:=⟨h.mps,h.eqs,h.fld,h.siz,h.byt,h.elt,h.zer,h.str,h.boo,h.ints,h.conT,h.conF⟩
def CtlT(c:Ctl):T:=if ctlB c=true then .tup [.v (.agg (cM (ctlN c))),.v (.int .i64 0)] else .tup [.v (.agg (cM nd0)),.v (.int .i64 100)]
theorem Control_fn(c:Ctl):Fn Tryz.prog (envX p) 21 [.v (.agg (cCtl c))] (CtlT c):=by
 have hc:=check_ctl p c
 unfold CtlT
 cases hB:ctlB c
 ·rw[hB] at hc
  rw[if_neg (by decide)]
  refine fn_prog tabOk mixed Tryz.f21 Tryz.func21 (by kernel_rfl) (by kernel_rfl) ?_
  conv=>whnf
  (refine st_call hc ?_ rfl rfl ?_;(focus ((repeat' first|exact trivial|exact rfl|exact .inl rfl|exact .inr ⟨rfl,rfl⟩|refine And.intro ?_ ?_);done));conv=>whnf)
  (refine st_call (told_wrong_fn p ctlS) ?_ rfl rfl ?_;(focus ((repeat' first|exact trivial|exact rfl|exact .inl rfl|exact .inr ⟨rfl,rfl⟩|refine And.intro ?_ ?_);done));conv=>whnf)
  (focus ((repeat' first|exact trivial|exact rfl|exact .inl rfl|exact .inr ⟨rfl,rfl⟩|refine And.intro ?_ ?_);done))
 ·rw[hB] at hc
  rw[if_pos rfl,show ctlN c=.mk 48 (bt' []) (leafN 4 c.oid::((if c.crit=true then [leafN 1 (bt' [255])] else [])++if c.has=true then [leafN 4 c.val] else [])) from rfl]
  have hb:=bool_fn (X:=envX p) true
  have h3:∀n:Nd,∀c∈[cM n],c.length=3:=fun n c hc=>by simp at hc;rw[hc];rfl
  cases hcr:c.crit <;> cases hh:c.has
  all_goals
   refine fn_prog (tab_nz tabOk) mixed Tryz.f21 Tryz.func21 (by kernel_rfl) (by kernel_rfl) ?_
   conv=>whnf
   (refine st_call hc ?_ rfl rfl ?_;(focus ((repeat' first|exact trivial|exact rfl|exact .inl rfl|exact .inr ⟨rfl,rfl⟩|refine And.intro ?_ ?_);done));conv=>whnf)
   (refine st_call (text_fn c.oid) ?_ rfl rfl ?_;(focus ((repeat' first|exact trivial|exact rfl|exact .inl rfl|exact .inr ⟨rfl,rfl⟩|refine And.intro ?_ ?_);done));conv=>whnf)
   refine st_callE [] (args:=[.v (.int .i64 48),.own 16 29 ([leafN 4 c.oid].map cN)]) (node_own 48 [leafN 4 c.oid] 16) ?_ ?_ ?_
   ·exact⟨.inl rfl,.inl rfl,trivial⟩
   ·rfl
   conv=>whnf
   rw[hcr]
   conv=>whnf
  ·rw[hh]
   conv=>whnf
   (focus ((repeat' first|exact trivial|exact rfl|exact .inl rfl|exact .inr ⟨rfl,rfl⟩|refine And.intro ?_ ?_);done))
  ·rw[hh]
   conv=>whnf
   refine⟨none,by kernel_rfl,?_⟩;conv=>whnf
   (refine st_call (text_fn c.val) ?_ rfl rfl ?_;(focus ((repeat' first|exact trivial|exact rfl|exact .inl rfl|exact .inr ⟨rfl,rfl⟩|refine And.intro ?_ ?_);done));conv=>whnf)
   refine st_app (by simp) (h3 (leafN 4 c.val)) rfl ?_
   conv=>whnf
   (focus ((repeat' first|exact trivial|exact rfl|exact .inl rfl|exact .inr ⟨rfl,rfl⟩|refine And.intro ?_ ?_);done))
  ·refine⟨none,by kernel_rfl,?_⟩;conv=>whnf
   (refine st_call hb ?_ rfl rfl ?_;(focus ((repeat' first|exact trivial|exact rfl|exact .inl rfl|exact .inr ⟨rfl,rfl⟩|refine And.intro ?_ ?_);done));conv=>whnf)
   refine st_app (by simp) (h3 (.mk 1 (boolB true) [])) rfl ?_
   conv=>whnf
   rw[hh]
   conv=>whnf
   (focus ((repeat' first|exact trivial|exact rfl|exact .inl rfl|exact .inr ⟨rfl,rfl⟩|refine And.intro ?_ ?_);done))
  ·refine⟨none,by kernel_rfl,?_⟩;conv=>whnf
   (refine st_call hb ?_ rfl rfl ?_;(focus ((repeat' first|exact trivial|exact rfl|exact .inl rfl|exact .inr ⟨rfl,rfl⟩|refine And.intro ?_ ?_);done));conv=>whnf)
   refine st_app (by simp) (h3 (.mk 1 (boolB true) [])) rfl ?_
   conv=>whnf
   rw[hh]
   conv=>whnf
   refine⟨none,by kernel_rfl,?_⟩;conv=>whnf
   (refine st_call (text_fn c.val) ?_ rfl rfl ?_;(focus ((repeat' first|exact trivial|exact rfl|exact .inl rfl|exact .inr ⟨rfl,rfl⟩|refine And.intro ?_ ?_);done));conv=>whnf)
   refine st_app (by simp) (h3 (leafN 4 c.val)) rfl ?_
   conv=>whnf
   (focus ((repeat' first|exact trivial|exact rfl|exact .inl rfl|exact .inr ⟨rfl,rfl⟩|refine And.intro ?_ ?_);done))
end Go.Proofs.YtknelogmocedeaaGreatDoor.Pa
namespace Go.Proofs.YtknelogmocedeaaGreatDoor.Pa
open Go.RowKit Go.Shelf Go.Lib Tl Pr
open Fl (bl bt' bl_bt bl_of size_bl)
open Fi (one_arg encS all_take_succ all_bad)
set_option linter.unusedVariables false
variable {X : En} (p : Nat → Addr)
def bCtl(c:Ctl):List T:=[.v (.str c.oid),.v (.bool c.crit),.v (.str c.val),.v (.bool c.has)]
theorem ctl_bad(c:Ctl):FnD Tryz.prog X 94 [[.v (paErr ctlS)],bCtl c] [.ptr 0 0,.ptr 1 0] [[.v (paErr ctlS)],bCtl ctl0]:=by
 refine fnD_prog tabOk mixed Tryz.f94 Tryz.func94 (by kernel_rfl) (by kernel_rfl) (by kernel_rfl) (by kernel_rfl) rfl rfl rfl rfl ?_
 conv=>whnf
 (focus ((repeat' first|exact trivial|exact rfl|exact .inl rfl|exact .inr ⟨rfl,rfl⟩|refine And.intro ?_ ?_);done))
theorem ctl_good(c:Ctl):FnD Tryz.prog X 94 [[.v .nili],bCtl c] [.ptr 0 0,.ptr 1 0] [[.v .nili],bCtl c]:=by
 refine fnD_prog tabOk mixed Tryz.f94 Tryz.func94 (by kernel_rfl) (by kernel_rfl) (by kernel_rfl) (by kernel_rfl) rfl rfl rfl rfl ?_
 conv=>whnf
 (focus ((repeat' first|exact trivial|exact rfl|exact .inl rfl|exact .inr ⟨rfl,rfl⟩|refine And.intro ?_ ?_);done))
def ctlR:Option Ctl→T
 | some c=>.tup [.v (.agg (cCtl c)),.v .nili]
 | none=>.tup [.v (.agg (cCtl ctl0)),.v (paErr ctlS)]
theorem take_mid{tag:Int}{t:Tk}(h:midT t):midT (takeD tag t).2:=by
 unfold takeD
 split
 ·rename_i x r hn
  have:=next_mid hn h.2
  obtain⟨h1,_⟩:=next_some hn
  refine⟨?_,this.2⟩
  have:=h.1
  rw[h1,List.length_cons] at this
  dsimp only
  omega
 ·exact h
theorem of_mid{n:Nd}(h:midN n)(tag:Int):midT (ofN n tag):=midN_at h
theorem read_true(s:ByteArray):trueB s=(readB s==some true):=by
 unfold trueB readB
 rcases bl s with _ | ⟨b,_ | ⟨c,r⟩⟩
 ·rfl
 ·dsimp only
  generalize decide (b≠0)=q
  cases q <;> rfl
 ·rfl
def ctlU(lk:Bool)(l:List Nd)(e:Bool):Bool:=[!lk,decide (l=[]),e].all id
theorem ctlU_iff(lk:Bool)(l:List Nd)(e:Bool):ctlU lk l e=true↔lk=false∧l=[]∧e=true:=by
 unfold ctlU
 cases lk <;> cases e <;> simp
theorem of_ctl(x:Nd):FnI Tryz.prog X 95 [.v (.agg (cM x)),.v (.int .i64 48)] [(3,[.v .nili]),(2,bCtl ctl0),(1,[.v (.int .i64 x.tag),.v (.str x.data),.v (.sl (x.kids.map cN))])] [] (.ptr 20 0) [(20,takC (ofN x 48)),(3,[.v .nili]),(2,bCtl ctl0),(1,[.v (.int .i64 x.tag),.v (.str x.data),.v (.sl (x.kids.map cN))])] [] [20]:=by
 have ho:ofN x 48=(x.kids,decide (x.tag≠48∨x.data.size≠0)):=rfl
 rw[ho]
 refine fnI_prog tabOk mixed Tryz.f95 [(20,18)] (upN 19) Tryz.func95 (by kernel_rfl) (by kernel_rfl) rfl rfl ?_
 conv=>whnf
 refine⟨rfl,cmp_split (fun h=>?_) (fun h=>?_)⟩
 ·rw[show decide (x.tag≠48∨x.data.size≠0)=true from decide_eq_true (.inl h)]
  conv=>whnf
  (focus ((repeat' first|exact trivial|exact rfl|exact .inl rfl|exact .inr ⟨rfl,rfl⟩|refine And.intro ?_ ?_);done))
 ·conv=>whnf
  refine cmp_split (fun h2=>?_) (fun h2=>?_)
  ·rw[show decide (x.tag≠48∨x.data.size≠0)=true from decide_eq_true (.inr (fun e=>h2 (Fi.size0.1 e)))]
   conv=>whnf
   (focus ((repeat' first|exact trivial|exact rfl|exact .inl rfl|exact .inr ⟨rfl,rfl⟩|refine And.intro ?_ ?_);done))
  ·rw[show decide (x.tag≠48∨x.data.size≠0)=false from decide_eq_false (fun e=>e.elim h (fun e=>e (Fi.size0.2 (Decidable.not_not.1 h2))))]
   conv=>whnf
   (focus ((repeat' first|exact trivial|exact rfl|exact .inl rfl|exact .inr ⟨rfl,rfl⟩|refine And.intro ?_ ?_);done))
set_option maxHeartbeats 16000000 in
theorem control_fn(n:Nd)(hm:midN n):Fn Tryz.prog (envX p) 59 [.v (.agg (cM n))] (ctlR (readC n)):=by
 refine fn_of_m ?_
 have hk:=of_mid hm 48
 have hA:=data_fn (X:=envX p) 4 (ofN n 48) hk.1
 have hmA:=take_mid (tag:=4) hk
 have hrd:readC n=(let b:=takeC (takeD 4 (ofN n 48)).2;let v:=takeV b.2;if v.2.2=false∧v.2.1=[]∧ctlB ⟨(takeD 4 (ofN n 48)).1,b.1,v.1.2,v.1.1⟩=true then some ⟨(takeD 4 (ofN n 48)).1,b.1,v.1.2,v.1.1⟩ else none):=rfl
 generalize takeD 4 (ofN n 48)=a at hA hmA hrd
 obtain⟨o,t1⟩:=a
 dsimp only at hA hmA hrd
 have hI1:=isIn_fn (X:=envX p) 1 t1
 have ho:ofN n 48=(n.kids,decide (n.tag≠48∨n.data.size≠0)):=rfl
 have hD1:=data_fn (X:=envX p) 1 t1 hmA.1
 have hm2:=take_mid (tag:=1) hmA
 obtain⟨cr,e,t,hC,hmt,hst⟩:∃(cr:Bool) (e:Int) (t:Tk),takeC t1=(cr,t)∧midT t∧((isIn 1 t1=false∧cr=false∧e=0∧t=t1)∨(isIn 1 t1=true∧Fn Tryz.prog (envX p) 98 [.v (.str (takeD 1 t1).1)] (.tup [.v (.bool cr),.v (.int .i64 e)])∧t=((takeD 1 t1).2.1,(takeD 1 t1).2.2|| !cr)∧(e=0∨t.2=true))):=by
  have hr:=readBool_fn p (takeD 1 t1).1
  have ht:=read_true (takeD 1 t1).1
  unfold readBT at hr
  cases hi:isIn 1 t1
  ·exact⟨false,0,t1,by unfold takeC;rw[hi];rfl,hmA,.inl ⟨rfl,rfl,rfl,rfl⟩⟩
  ·cases hb:readB (takeD 1 t1).1 with
   | none=>
    rw[hb] at hr ht
    exact⟨false,31,((takeD 1 t1).2.1,(takeD 1 t1).2.2|| !false),by unfold takeC;rw[if_pos hi,ht];rfl,hm2,.inr ⟨rfl,hr,rfl,.inr (Bool.or_true _)⟩⟩
   | some b=>
    rw[hb] at hr ht
    exact⟨b,0,((takeD 1 t1).2.1,(takeD 1 t1).2.2|| !b),by unfold takeC;rw[if_pos hi,ht];cases b <;> rfl,hm2,.inr ⟨rfl,hr,rfl,.inl rfl⟩⟩
 rw[hC] at hrd
 dsimp only at hrd
 have hI4:=isIn_fn (X:=envX p) 4 t
 have hD4:=data_fn (X:=envX p) 4 t hmt.1
 obtain⟨has,v,t4,hV,hm4,hsv⟩:∃(has:Bool) (v:ByteArray) (t4:Tk),takeV t=((has,v),t4)∧midT t4∧((has=false∧isIn 4 t=false∧v=⟨#[]⟩∧t4=t)∨(has=true∧isIn 4 t=true∧v=(takeD 4 t).1∧t4=(takeD 4 t).2)):=by
  cases hj:isIn 4 t
  ·exact⟨_,_,_,by unfold takeV;rw[hj];rfl,hmt,.inl ⟨rfl,rfl,rfl,rfl⟩⟩
  ·exact⟨_,_,_,by unfold takeV;rw[hj];rfl,take_mid hmt,.inr ⟨rfl,rfl,rfl,rfl⟩⟩
 rw[hV] at hrd
 dsimp only at hrd
 have hE:=end_fn (X:=envX p) t4
 have hU:Fn Tryz.prog (envX p) 82 [.v (.str ctlS),.v (.sl ([!t4.2,decide (t4.1=[]),decide (e=0)].map fun b=>[V.bool b]))] (.v (errU ctlS (ctlU t4.2 t4.1 (decide (e=0))))):=unless_fn (X:=envX p) ctlS [!t4.2,decide (t4.1=[]),decide (e=0)] (by simp)
 have hK:=check_ctl p ⟨o,cr,v,has⟩
 have he:t4.2=false→e=0:=fun h=>by
  rcases hst with⟨_,_,he,_⟩ | ⟨_,_,_,he | he⟩
  ·exact he
  ·exact he
  ·rcases hsv with⟨_,_,_,rfl⟩ | ⟨_,_,_,rfl⟩
   ·rw[h] at he;cases he
   ·rw[(take_ok h).1] at he;cases he
 have hlk:(ctlU t4.2 t4.1 (decide (e=0))=true∧ctlB ⟨o,cr,v,has⟩=true∧readC n=some ⟨o,cr,v,has⟩)∨(ctlU t4.2 t4.1 (decide (e=0))=true∧ctlB ⟨o,cr,v,has⟩=false∧readC n=none)∨(ctlU t4.2 t4.1 (decide (e=0))=false∧readC n=none):=by
  rw[hrd]
  cases hu:ctlU t4.2 t4.1 (decide (e=0))
  ·exact .inr (.inr ⟨rfl,if_neg fun h=>by rw[(ctlU_iff _ _ _).2 ⟨h.1,h.2.1,decide_eq_true (he h.1)⟩] at hu;cases hu⟩)
  ·obtain⟨u1,u2,_⟩:=(ctlU_iff _ _ _).1 hu
   cases hb:ctlB ⟨o,cr,v,has⟩
   ·exact .inr (.inl ⟨rfl,rfl,if_neg fun h=>by cases h.2.2⟩)
   ·exact .inl ⟨rfl,rfl,if_pos ⟨u1,u2,rfl⟩⟩
 have hgd:=ctl_good (X:=envX p) ⟨o,cr,v,has⟩
 have hbd:=ctl_bad (X:=envX p) ⟨o,cr,v,has⟩
 clear hrd he hC hV hmA hmt hm4 hm2 hk hm
 rcases hlk with⟨h1,h2,h3⟩ | ⟨h1,h2,h3⟩ | ⟨h1,h3⟩
 all_goals
  rw[h3]
  rw[h1] at hU
  try rw[h2] at hK
  rcases hst with⟨hi,rfl,rfl,rfl⟩ | ⟨hi,hRB,rfl,_⟩
  all_goals
   rw[hi] at hI1
   try (generalize takeD 1 t1=q at*;obtain⟨d,l1,_ | _⟩:=q)
  all_goals
   rcases hsv with⟨rfl,hj,rfl,rfl⟩ | ⟨rfl,hj,rfl,rfl⟩
   all_goals
    rw[hj] at hI4
    refine fnM_defer (d:=7) (fc:=94) tabOk mixed Tryz.f59 Tryz.func59 (by kernel_rfl) rfl rfl rfl rfl rfl rfl rfl rfl rfl (by decide) (by decide) (by kernel_rfl) rfl rfl rfl rfl ?_
    conv=>whnf
    refine st_callN [20] (r:=.ptr 20 0) (bs':=[(20,takC (ofN n 48)),(3,[.v .nili]),(2,bCtl ctl0),(1,[.v (.int .i64 n.tag),.v (.str n.data),.v (.sl (n.kids.map cN))])]) (lv':=[]) (args:=[.v (.agg (cM n)),.v (.int .i64 48)]) ?_ ?_ ?_ ?_
    ·exact of_ctl n
    ·(focus ((repeat' first|exact trivial|exact rfl|exact .inl rfl|exact .inr ⟨rfl,rfl⟩|refine And.intro ?_ ?_);done))
    ·rfl
    conv=>whnf
    (refine st_callM [20] (hA) rfl ?_ ?_ rfl ?_;(focus ((repeat' first|exact trivial|exact rfl|exact .inl rfl|exact .inr ⟨rfl,rfl⟩|refine And.intro ?_ ?_);done));(focus ((repeat' first|exact trivial|exact rfl|exact .inl rfl|exact .inr ⟨rfl,rfl⟩|refine And.intro ?_ ?_);done));conv=>whnf)
    (refine st_callM [20] (hI1) rfl ?_ ?_ rfl ?_;(focus ((repeat' first|exact trivial|exact rfl|exact .inl rfl|exact .inr ⟨rfl,rfl⟩|refine And.intro ?_ ?_);done));(focus ((repeat' first|exact trivial|exact rfl|exact .inl rfl|exact .inr ⟨rfl,rfl⟩|refine And.intro ?_ ?_);done));conv=>whnf)
    try (have hq:=hRB;(refine st_callM [20] (hD1) rfl ?_ ?_ rfl ?_;(focus ((repeat' first|exact trivial|exact rfl|exact .inl rfl|exact .inr ⟨rfl,rfl⟩|refine And.intro ?_ ?_);done));(focus ((repeat' first|exact trivial|exact rfl|exact .inl rfl|exact .inr ⟨rfl,rfl⟩|refine And.intro ?_ ?_);done));conv=>whnf);(refine st_call hRB ?_ rfl rfl ?_;(focus ((repeat' first|exact trivial|exact rfl|exact .inl rfl|exact .inr ⟨rfl,rfl⟩|refine And.intro ?_ ?_);done));conv=>whnf))
    (refine st_callM [20] (hI4) rfl ?_ ?_ rfl ?_;(focus ((repeat' first|exact trivial|exact rfl|exact .inl rfl|exact .inr ⟨rfl,rfl⟩|refine And.intro ?_ ?_);done));(focus ((repeat' first|exact trivial|exact rfl|exact .inl rfl|exact .inr ⟨rfl,rfl⟩|refine And.intro ?_ ?_);done));conv=>whnf)
    try (refine st_callM [20] (hD4) rfl ?_ ?_ rfl ?_;(focus ((repeat' first|exact trivial|exact rfl|exact .inl rfl|exact .inr ⟨rfl,rfl⟩|refine And.intro ?_ ?_);done));(focus ((repeat' first|exact trivial|exact rfl|exact .inl rfl|exact .inr ⟨rfl,rfl⟩|refine And.intro ?_ ?_);done));conv=>whnf)
    (refine⟨some [9999],by kernel_rfl,⟨(.one 0 (.one 1 (.one 2 (.one 5 (.one 7 (.one 8 (.or (.one 3 (.one 4 (.one 6 (.one 9 (.one 10 (.one 11 .nil)))))) (.one 6 (.one 3 (.one 4 (.one 9 (.one 10 (.one 11 .nil))))))))))))),by kernel_rfl,?_,?_,?_⟩⟩;rotate_left;(focus ((conv=>whnf);(repeat' (first | (((with_reducible apply st_call (hU));(focus ((repeat' first|exact trivial|exact rfl|exact .inl rfl|exact .inr ⟨rfl,rfl⟩|refine And.intro ?_ ?_);done));(focus (exact rfl));(focus (exact rfl))) <;> (conv=>whnf)) | ((refine⟨rfl,cmp_bool ?_⟩) <;> (conv=>whnf)) | (((refine st_callM [20] (hE) rfl ?_ ?_ rfl ?_;(focus ((repeat' first|exact trivial|exact rfl|exact .inl rfl|exact .inr ⟨rfl,rfl⟩|refine And.intro ?_ ?_);done));(focus ((repeat' first|exact trivial|exact rfl|exact .inl rfl|exact .inr ⟨rfl,rfl⟩|refine And.intro ?_ ?_);done)))) <;> (conv=>whnf)) | ((refine And.intro ?_ ?_) <;> (conv=>whnf)) | (exact St.le_refl _) | (refine⟨rfl,?_,?_,?_⟩ <;> (repeat' (first | exact trivial | (refine⟨rfl,?_⟩)));done) | fail)))));conv=>whnf
    try
     refine⟨none,by kernel_rfl,?_⟩;conv=>whnf
     (refine st_call hK ?_ rfl rfl ?_;(focus ((repeat' first|exact trivial|exact rfl|exact .inl rfl|exact .inr ⟨rfl,rfl⟩|refine And.intro ?_ ?_);done));conv=>whnf)
    first
     | (refine⟨rfl,[3,2],_,_,_,hgd,rfl,?_,?_,?_⟩;(focus ((repeat' first|exact trivial|exact rfl|exact .inl rfl|exact .inr ⟨rfl,rfl⟩|refine And.intro ?_ ?_);done));(focus ((repeat' first|exact trivial|exact rfl|exact .inl rfl|exact .inr ⟨rfl,rfl⟩|refine And.intro ?_ ?_);done)))
     | (refine⟨rfl,[3,2],_,_,_,hbd,rfl,?_,?_,?_⟩;(focus ((repeat' first|exact trivial|exact rfl|exact .inl rfl|exact .inr ⟨rfl,rfl⟩|refine And.intro ?_ ?_);done));(focus ((repeat' first|exact trivial|exact rfl|exact .inl rfl|exact .inr ⟨rfl,rfl⟩|refine And.intro ?_ ?_);done)))
    conv=>whnf
    (focus ((repeat' first|exact trivial|exact rfl|exact .inl rfl|exact .inr ⟨rfl,rfl⟩|refine And.intro ?_ ?_);done))
end Go.Proofs.YtknelogmocedeaaGreatDoor.Pa
namespace Go.Proofs.YtknelogmocedeaaGreatDoor.Tl
open Go.RowKit Go.Shelf Go.Lib
open Fl (bl bt' bl_bt bl_of size_bl)
open Fi (size0)
set_option linter.unusedVariables false
variable {X : En}
theorem sames_zip:∀(l m:List Nd),l.length=m.length→sameNs l m=true∨∃i,∃(h:i < l.length) (h':i < m.length),sameN l[i] m[i]=false:=by
 intro l
 induction l with
 | nil=>intro m h;cases m with
  | nil=>exact .inl rfl
  | cons _ _=>simp at h
 | cons x r ih=>intro m h;cases m with
  | nil=>simp at h
  | cons y s=>
   cases hxy:sameN x y
   ·exact .inr ⟨0,by simp,by simp,hxy⟩
   ·rcases ih s (by simpa using h) with h1 | ⟨i,h1,h2,h3⟩
    ·exact .inl (by rw[sameNs,hxy,h1];rfl)
    ·exact .inr ⟨i+1,by simpa using h1,by simpa using h2,by simpa using h3⟩
theorem sames_len:∀(l m:List Nd),sameNs l m=true→l.length=m.length:=fun l m h=>by rw[(sameNs_iff l m).1 h]
theorem sames_bad{l m:List Nd}{i:Nat}(h:i < l.length)(h':i < m.length)(hf:sameN l[i] m[i]=false):sameNs l m=false:=by
 cases hq:sameNs l m
 ·rfl
 ·have:=(sameNs_iff l m).1 hq
  subst this
  rw[sameN_refl] at hf;cases hf
set_option maxHeartbeats 100000000 in
theorem eqN_fn(l m:List Nd)(hl:l.length≤100000000)(hf:∀x∈l,∀y∈m,Fn Tryz.prog X 14 [.v (.agg (cM x)),.v (.agg (cM y))] (.v (.bool (sameN x y)))):Fn Tryz.prog X 49 [.v (.sl (l.map cN)),.v (.sl (m.map cN)),.fn 14 []] (.v (.bool (sameNs l m))):=by
 refine fn_prog tabOk mixed Tryz.f49 Tryz.func49 (by kernel_rfl) (by kernel_rfl) ?_
 conv=>whnf
 refine⟨rfl,cmp_split (fun h=>?_) (fun h=>?_)⟩
 ·rw[List.length_map,List.length_map] at h
  conv=>whnf
  refine⟨.inl (congrArg V.bool ?_),rfl⟩
  cases hq:sameNs l m
  ·rfl
  ·exact absurd (by rw[sames_len l m hq]) h
 rw[List.length_map,List.length_map] at h
 have hab:l.length=m.length:=by omega
 conv=>whnf
 refine⟨Nat,fun i=>⟨32,[(1,.v (.sl (m.map cN))),(2,.fn 14 []),(15,.v (.sl (l.map cN))),(16,.v (.int .i64 ((l.map cN).length:Nat))),(17,.v (.int .i64 (i:Nat)))],[],[]⟩,fun i=>i≤l.length∧∀j (h:j < i) (h1:j < l.length) (h2:j < m.length),sameN l[j] m[j]=true,fun i=>l.length - i,⟨0,[],⟨by omega,fun j h=>by omega⟩,?_⟩,fun i ⟨hi,he⟩=>?_⟩
 ·exact⟨rfl,rfl,⟨.inl rfl,⟨rfl,trivial,rfl⟩,.inl rfl,.inl rfl,.inl rfl,trivial⟩,trivial,trivial⟩
 conv=>whnf
 refine⟨rfl,cmp_split (fun h=>?_) (fun h=>?_)⟩
 ·rw[List.length_map] at h
  have hil:i < l.length:=by omega
  have him:i < m.length:=by omega
  conv=>whnf
  refine st_idxN hil ?_
  conv=>whnf
  refine st_idxN him ?_
  conv=>whnf
  refine st_callB (hf l[i] (List.getElem_mem hil) m[i] (List.getElem_mem him)) ⟨.inl rfl,.inl rfl,trivial⟩ rfl (fun h2=>?_) (fun h2=>?_)
  ·conv=>whnf
   refine⟨rfl,st_succ (by omega) ?_⟩
   conv=>whnf
   refine⟨i+1,[],⟨by omega,fun j hj h1 h3=>?_⟩,by dsimp only;omega,?_⟩
   ·by_cases e:j=i
    ·subst e;exact h2
    ·exact he j (by omega) h1 h3
   ·exact⟨rfl,rfl,⟨.inl rfl,⟨rfl,trivial,rfl⟩,.inl rfl,.inl rfl,.inl rfl,trivial⟩,trivial,trivial⟩
  ·conv=>whnf
   exact⟨.inl (congrArg V.bool (sames_bad hil him h2).symm),rfl⟩
 ·rw[List.length_map] at h
  conv=>whnf
  refine⟨.inl (congrArg V.bool ?_),rfl⟩
  rcases sames_zip l m hab with h1 | ⟨j,h1,h2,h3⟩
  ·exact h1.symm
  ·rw[he j (by omega) h1 h2] at h3;cases h3
mutual
theorem same_fn:∀(x:Nd) (y:Nd),midN x→midN y→Fn Tryz.prog X 14 [.v (.agg (cM x)),.v (.agg (cM y))] (.v (.bool (sameN x y)))
 | .mk t d k,y,hx,hy=>by
  have hl:=same_fns k
  obtain⟨x1,x2⟩:=hx
  obtain⟨y1,y2⟩:=midN_at hy
  have hF:=eqN_fn k y.kids (by omega) (fun z hz u hu=>hl z hz u (midNs_mem x2 z hz) (midNs_mem y2 u hu))
  rw[show sameN (.mk t d k) y=(decide (t=y.tag)&&(decide (d=y.data)&&sameNs k y.kids)) by cases y;rfl]
  refine fn_prog tabOk mixed Tryz.f14 Tryz.func14 (by kernel_rfl) (by kernel_rfl) ?_
  conv=>whnf
  (repeat' (first | ((refine cmp_split (fun h=>?_) (fun h=>?_)) <;> (conv=>whnf)) | ((refine⟨rfl,cmp_split (fun h=>?_) (fun h=>?_)⟩) <;> (conv=>whnf)) | (((with_reducible apply st_callB (hF));(focus ((repeat' first|exact trivial|exact rfl|exact .inl rfl|exact .inr ⟨rfl,rfl⟩|refine And.intro ?_ ?_);done));(focus (exact rfl));(all_goals intro h)) <;> (conv=>whnf)) | fail))
  all_goals
   refine⟨.inl (congrArg V.bool ?_),rfl⟩
   clear hl x1 x2 y1 y2 hF
   clear hy
   simp only[show(Nd.mk t d k).tag=t from rfl,show(Nd.mk t d k).data=d from rfl] at*
   simp[*]
theorem same_fns:∀(l:List Nd),∀z∈l,∀(y:Nd),midN z→midN y→Fn Tryz.prog X 14 [.v (.agg (cM z)),.v (.agg (cM y))] (.v (.bool (sameN z y)))
 | [],z,hz,_=>by cases hz
 | x::r,z,hz,y=>by
  intro h1 h2
  have hx:=same_fn x
  have hr:=same_fns r
  rcases List.mem_cons.1 hz with e | hz
  ·rw[e] at h1 ⊢;exact hx y h1 h2
  ·exact hr z hz y h1 h2
end
theorem and32:∀t:Nat,t < 256→bitV .and .i64 (t:Nat) 32=if innerN t then 32 else 0:=by decide+kernel
theorem and31:∀t:Nat,t < 256→bitV .and .i64 (t:Nat) 31=((t % 32:Nat):Int):=by decide+kernel
theorem inner_fn(t:Nat)(h:t < 256):Fn Tryz.prog X 178 [.v (.int .i64 (t:Nat))] (.v (.bool (innerN t))):=by
 refine fn_prog tabOk mixed Tryz.f178 Tryz.func178 (by kernel_rfl) (by kernel_rfl) ?_
 conv=>whnf
 refine⟨rfl,_,and32 t h,?_⟩
 cases hi:innerN t
 ·rw[if_neg (by decide)]
  conv=>whnf
  refine⟨rfl,cmp_false (by decide) ?_⟩
  conv=>whnf
  exact⟨.inl rfl,rfl⟩
 ·rw[if_pos rfl]
  conv=>whnf
  refine⟨rfl,cmp_true (by decide) ?_⟩
  conv=>whnf
  exact⟨.inl rfl,rfl⟩
theorem oneN_val(x:Nd):oneN x=(decide (0≤x.tag)&&(decide (x.tag≤255)&&(decide (x.tag.toNat % 32≠31)&&if innerN x.tag.toNat then decide (x.data.size=0) else x.kids.isEmpty))):=by cases x;rfl
theorem one_fn(x:Nd):Fn Tryz.prog X 151 [.v (.agg (cM x))] (.v (.bool (oneN x))):=by
 rw[oneN_val]
 refine fn_prog tabOk mixed Tryz.f151 Tryz.func151 (by kernel_rfl) (by kernel_rfl) ?_
 conv=>whnf
 refine⟨rfl,cmp_split (fun h=>?_) (fun h=>?_)⟩
 ·conv=>whnf
  exact⟨.inl (by rw[decide_eq_false (by omega)];rfl),rfl⟩
 conv=>whnf
 refine⟨rfl,cmp_split (fun h2=>?_) (fun h2=>?_)⟩
 ·conv=>whnf
  exact⟨.inl (by rw[decide_eq_true (by omega:0≤x.tag),decide_eq_false (by omega)];rfl),rfl⟩
 rw[decide_eq_true (by omega:0≤x.tag),decide_eq_true (by omega:x.tag≤255),Bool.true_and,Bool.true_and]
 obtain⟨t,ht⟩:∃t:Nat,x.tag=(t:Nat):=⟨x.tag.toNat,by omega⟩
 have ht2:t < 256:=by omega
 have hin:=inner_fn (X:=X) t ht2
 rw[ht,Int.toNat_natCast]
 conv=>whnf
 refine⟨rfl,_,and31 t ht2,?_⟩
 conv=>whnf
 refine⟨rfl,cmp_split (fun h3=>?_) (fun h3=>?_)⟩
 ·conv=>whnf
  exact⟨.inl (by rw[decide_eq_false (by omega)];rfl),rfl⟩
 rw[decide_eq_true (by omega:t % 32≠31),Bool.true_and]
 conv=>whnf
 cases hi:innerN t
 ·rw[hi] at hin
  (refine st_call hin ?_ rfl rfl ?_;(focus ((repeat' first|exact trivial|exact rfl|exact .inl rfl|exact .inr ⟨rfl,rfl⟩|refine And.intro ?_ ?_);done));conv=>whnf)
  rw[if_neg (by decide)]
  refine⟨rfl,cmp_split (fun h4=>?_) (fun h4=>?_)⟩
  ·conv=>whnf
   rw[List.length_map] at h4
   exact⟨.inl (congrArg V.bool (List.isEmpty_iff.2 (List.eq_nil_of_length_eq_zero (by omega))).symm),rfl⟩
  ·conv=>whnf
   rw[List.length_map] at h4
   exact⟨.inl (congrArg V.bool (by cases hk:x.kids with | nil=>rw[hk] at h4;exact absurd rfl h4 | cons _ _=>rfl)),rfl⟩
 ·rw[hi] at hin
  (refine st_call hin ?_ rfl rfl ?_;(focus ((repeat' first|exact trivial|exact rfl|exact .inl rfl|exact .inr ⟨rfl,rfl⟩|refine And.intro ?_ ?_);done));conv=>whnf)
  rw[if_pos rfl]
  refine cmp_split (fun h4=>?_) (fun h4=>?_)
  ·conv=>whnf
   exact⟨.inl (congrArg V.bool (decide_eq_true (size0.2 h4)).symm),rfl⟩
  ·conv=>whnf
   exact⟨.inl (congrArg V.bool (decide_eq_false (fun e=>h4 (size0.1 e))).symm),rfl⟩
end Go.Proofs.YtknelogmocedeaaGreatDoor.Tl
namespace Go.Proofs.YtknelogmocedeaaGreatDoor.Pa
open Go.RowKit Go.Shelf Go.Lib Tl Pr
open Fl (bl bt' bl_bt bl_of size_bl)
open Fi (one_arg encS all_take_succ all_bad)
set_option linter.unusedVariables false
variable {X : En} (p : Nat → Addr)
def ctlG:Option Ctl→T
 | some c=>.tup [.v (.agg (cCtl c)),.v (.int .i64 0)]
 | none=>.tup [.v (.agg (cCtl ctl0)),.v (.int .i64 100)]
theorem ReadControl_fn(n:Nd)(hm:midN n):Fn Tryz.prog (envX p) 22 [.v (.agg (cM n))] (ctlG (readC n)):=by
 have hc:=control_fn p n hm
 cases h:readC n <;> rw[h] at hc
 all_goals
  refine fn_prog tabOk mixed Tryz.f22 Tryz.func22 (by kernel_rfl) (by kernel_rfl) ?_
  conv=>whnf
  (refine st_call hc ?_ rfl rfl ?_;(focus ((repeat' first|exact trivial|exact rfl|exact .inl rfl|exact .inr ⟨rfl,rfl⟩|refine And.intro ?_ ?_);done));conv=>whnf)
  refine⟨none,by kernel_rfl,?_⟩;conv=>whnf
 ·(refine st_call (told_wrong_fn p ctlS) ?_ rfl rfl ?_;(focus ((repeat' first|exact trivial|exact rfl|exact .inl rfl|exact .inr ⟨rfl,rfl⟩|refine And.intro ?_ ?_);done));conv=>whnf)
  (focus ((repeat' first|exact trivial|exact rfl|exact .inl rfl|exact .inr ⟨rfl,rfl⟩|refine And.intro ?_ ?_);done))
 ·(refine st_call (told_nil_fn p) ?_ rfl rfl ?_;(focus ((repeat' first|exact trivial|exact rfl|exact .inl rfl|exact .inr ⟨rfl,rfl⟩|refine And.intro ?_ ?_);done));conv=>whnf)
  (focus ((repeat' first|exact trivial|exact rfl|exact .inl rfl|exact .inr ⟨rfl,rfl⟩|refine And.intro ?_ ?_);done))
def cAtt(a:Att):List V:=[.str a.name,.sl (a.vals.map encS)]
def attS:ByteArray:=⟨#[97,116,116,114,105,98,117,116,101]⟩
def midA(a:Att):Prop:=a.name.size≤100000000∧a.vals.length≤100000000
theorem check_att(a:Att)(least:Int)(hm:midA a):Fn Tryz.prog (envX p) 44 [.v (.agg (cAtt a)),.v (.int .i64 least)] (.v (errU attS (attB a least))):=by
 have hn:=Fi.name_fn p a.name hm.1
 have hs:=short_fn (X:=envX p) 200 a.vals (by have:=hm.2;omega)
 have hu:=unless_fn (X:=envX p) attS [decide (least=0∨least=1),Fl.nameB (bl a.name),decide (least≤((a.vals.map encS).length:Nat)),decide ((((a.vals.map encS).length:Nat):Int)≤6),allSz 200 a.vals] (by simp)
 have he:[decide (least=0∨least=1),Fl.nameB (bl a.name),decide (least≤((a.vals.map encS).length:Nat)),decide ((((a.vals.map encS).length:Nat):Int)≤6),allSz 200 a.vals].all id=attB a least:=by
  unfold attB
  rw[List.length_map,show decide (((a.vals.length:Nat):Int)≤6)=decide (a.vals.length≤6) from decide_eq_decide.2 (by omega)]
  simp only[List.all_cons,List.all_nil,id,Bool.and_true]
 rw[he] at hu
 by_cases h0:least=0
 ·rw[show decide (least=0∨least=1)=true from decide_eq_true (.inl h0)] at hu
  cases hB:attB a least <;> rw[hB] at hu
  all_goals
   refine fn_prog tabOk mixed Tryz.f44 Tryz.func44 (by kernel_rfl) (by kernel_rfl) ?_
   conv=>whnf
   refine⟨some [0,1,2,3,4,5,6,7,9,10,11,12,13,14,15,8,16,17,18,19],by kernel_rfl,?_⟩;conv=>whnf
   refine⟨rfl,cmp_true h0 ?_⟩
   conv=>whnf
   (repeat' (first | (((with_reducible apply st_call (hn));(focus ((repeat' first|exact trivial|exact rfl|exact .inl rfl|exact .inr ⟨rfl,rfl⟩|refine And.intro ?_ ?_);done));(focus (exact rfl));(focus (exact rfl))) <;> (conv=>whnf)) | (((with_reducible apply st_call (hs));(focus ((repeat' first|exact trivial|exact rfl|exact .inl rfl|exact .inr ⟨rfl,rfl⟩|refine And.intro ?_ ?_);done));(focus (exact rfl));(focus (exact rfl))) <;> (conv=>whnf)) | (((with_reducible apply st_call (hu));(focus ((repeat' first|exact trivial|exact rfl|exact .inl rfl|exact .inr ⟨rfl,rfl⟩|refine And.intro ?_ ?_);done));(focus (exact rfl));(focus (exact rfl))) <;> (conv=>whnf)) | ((refine⟨rfl,cmp_bool ?_⟩) <;> (conv=>whnf)) | fail))
   (focus ((repeat' first|exact trivial|exact rfl|exact .inl rfl|exact .inr ⟨rfl,rfl⟩|refine And.intro ?_ ?_);done))
 ·have h0':=h0
  by_cases h1:least=1
  ·rw[show decide (least=0∨least=1)=true from decide_eq_true (.inr h1)] at hu
   cases hB:attB a least <;> rw[hB] at hu
   all_goals
    refine fn_prog tabOk mixed Tryz.f44 Tryz.func44 (by kernel_rfl) (by kernel_rfl) ?_
    conv=>whnf
    refine⟨some [0,1,2,3,4,5,6,7,9,10,11,12,13,14,15,8,16,17,18,19],by kernel_rfl,?_⟩;conv=>whnf
    refine⟨rfl,cmp_false h0 ?_⟩
    conv=>whnf
    refine⟨rfl,cmp_true h1 ?_⟩
    conv=>whnf
    (repeat' (first | (((with_reducible apply st_call (hn));(focus ((repeat' first|exact trivial|exact rfl|exact .inl rfl|exact .inr ⟨rfl,rfl⟩|refine And.intro ?_ ?_);done));(focus (exact rfl));(focus (exact rfl))) <;> (conv=>whnf)) | (((with_reducible apply st_call (hs));(focus ((repeat' first|exact trivial|exact rfl|exact .inl rfl|exact .inr ⟨rfl,rfl⟩|refine And.intro ?_ ?_);done));(focus (exact rfl));(focus (exact rfl))) <;> (conv=>whnf)) | (((with_reducible apply st_call (hu));(focus ((repeat' first|exact trivial|exact rfl|exact .inl rfl|exact .inr ⟨rfl,rfl⟩|refine And.intro ?_ ?_);done));(focus (exact rfl));(focus (exact rfl))) <;> (conv=>whnf)) | ((refine⟨rfl,cmp_bool ?_⟩) <;> (conv=>whnf)) | fail))
    (focus ((repeat' first|exact trivial|exact rfl|exact .inl rfl|exact .inr ⟨rfl,rfl⟩|refine And.intro ?_ ?_);done))
  ·rw[show decide (least=0∨least=1)=false from decide_eq_false (fun h=>h.elim h0 h1)] at hu
   cases hB:attB a least <;> rw[hB] at hu
   all_goals
    refine fn_prog tabOk mixed Tryz.f44 Tryz.func44 (by kernel_rfl) (by kernel_rfl) ?_
    conv=>whnf
    refine⟨some [0,1,2,3,4,5,6,7,9,10,11,12,13,14,15,8,16,17,18,19],by kernel_rfl,?_⟩;conv=>whnf
    refine⟨rfl,cmp_false h0 ?_⟩
    conv=>whnf
    refine⟨rfl,cmp_false h1 ?_⟩
    conv=>whnf
    (repeat' (first | (((with_reducible apply st_call (hn));(focus ((repeat' first|exact trivial|exact rfl|exact .inl rfl|exact .inr ⟨rfl,rfl⟩|refine And.intro ?_ ?_);done));(focus (exact rfl));(focus (exact rfl))) <;> (conv=>whnf)) | (((with_reducible apply st_call (hs));(focus ((repeat' first|exact trivial|exact rfl|exact .inl rfl|exact .inr ⟨rfl,rfl⟩|refine And.intro ?_ ?_);done));(focus (exact rfl));(focus (exact rfl))) <;> (conv=>whnf)) | (((with_reducible apply st_call (hu));(focus ((repeat' first|exact trivial|exact rfl|exact .inl rfl|exact .inr ⟨rfl,rfl⟩|refine And.intro ?_ ?_);done));(focus (exact rfl));(focus (exact rfl))) <;> (conv=>whnf)) | ((refine⟨rfl,cmp_bool ?_⟩) <;> (conv=>whnf)) | fail))
    (focus ((repeat' first|exact trivial|exact rfl|exact .inl rfl|exact .inr ⟨rfl,rfl⟩|refine And.intro ?_ ?_);done))
theorem node_fnM(t:Int)(l:List Nd):Fn Tryz.prog X 46 [.v (.int .i64 t),.v (.sl (l.map cM))] (.v (.agg (cM (.mk t (bt' []) l)))):=by
 rw[show l.map cM=l.map cN from List.map_congr_left fun x _=>(cM_eq x).symm]
 exact node_fn t l
def AttT(a:Att)(least:Int):T:=if attB a least=true then .tup [.v (.agg (cM (attN a))),.v (.int .i64 0)] else .tup [.v (.agg (cM nd0)),.v (.int .i64 100)]
theorem Attr_fn(a:Att)(least:Int)(hm:midA a):Fn Tryz.prog (envX p) 13 [.v (.agg (cAtt a)),.v (.int .i64 least)] (AttT a least):=by
 have hc:=check_att p a least hm
 unfold AttT
 cases hB:attB a least
 ·rw[hB] at hc
  rw[if_neg (by decide)]
  refine fn_prog tabOk mixed Tryz.f13 Tryz.func13 (by kernel_rfl) (by kernel_rfl) ?_
  conv=>whnf
  (refine st_call hc ?_ rfl rfl ?_;(focus ((repeat' first|exact trivial|exact rfl|exact .inl rfl|exact .inr ⟨rfl,rfl⟩|refine And.intro ?_ ?_);done));conv=>whnf)
  (refine st_call (told_wrong_fn p attS) ?_ rfl rfl ?_;(focus ((repeat' first|exact trivial|exact rfl|exact .inl rfl|exact .inr ⟨rfl,rfl⟩|refine And.intro ?_ ?_);done));conv=>whnf)
  (focus ((repeat' first|exact trivial|exact rfl|exact .inl rfl|exact .inr ⟨rfl,rfl⟩|refine And.intro ?_ ?_);done))
 ·rw[hB] at hc
  rw[if_pos rfl]
  have h1:=text_fn (X:=envX p) a.name
  have h2:=texts_fn (X:=envX p) 49 a.vals hm.2
  refine fn_prog tabOk mixed Tryz.f13 Tryz.func13 (by kernel_rfl) (by kernel_rfl) ?_
  conv=>whnf
  (refine st_call hc ?_ rfl rfl ?_;(focus ((repeat' first|exact trivial|exact rfl|exact .inl rfl|exact .inr ⟨rfl,rfl⟩|refine And.intro ?_ ?_);done));conv=>whnf)
  (refine⟨some [9999],by kernel_rfl,⟨(.one 0 (.one 3 (.or (.one 1 (.or (.one 2 (.one 4 (.one 5 (.one 6 (.one 7 (.one 8 (.one 9 .nil))))))) (.one 4 (.one 2 (.one 5 (.one 6 (.one 7 (.one 8 (.one 9 .nil))))))))) (.one 4 (.one 1 (.one 2 (.one 5 (.one 6 (.one 7 (.one 8 (.one 9 .nil))))))))))),by kernel_rfl,?_,?_,?_⟩⟩;rotate_left;(focus ((conv=>whnf);(repeat' (first | (((with_reducible apply st_call (h1));(focus ((repeat' first|exact trivial|exact rfl|exact .inl rfl|exact .inr ⟨rfl,rfl⟩|refine And.intro ?_ ?_);done));(focus (exact rfl));(focus (exact rfl))) <;> (conv=>whnf)) | (((with_reducible apply st_call (h2));(focus ((repeat' first|exact trivial|exact rfl|exact .inl rfl|exact .inr ⟨rfl,rfl⟩|refine And.intro ?_ ?_);done));(focus (exact rfl));(focus (exact rfl))) <;> (conv=>whnf)) | (((refine st_callN [] (FnI.of_fn (node_fnM 48 [leafN 4 a.name,leavesN 49 a.vals]) rfl rfl) ?_ rfl ?_;(focus ((repeat' first|exact trivial|exact rfl|exact .inl rfl|exact .inr ⟨rfl,rfl⟩|refine And.intro ?_ ?_);done)))) <;> (conv=>whnf)) | ((refine And.intro ?_ ?_) <;> (conv=>whnf)) | (exact St.le_refl _) | (refine⟨rfl,?_,?_,?_⟩ <;> (repeat' (first | exact trivial | (refine⟨rfl,?_⟩)));done) | fail)))));conv=>whnf
  (focus ((repeat' first|exact trivial|exact rfl|exact .inl rfl|exact .inr ⟨rfl,rfl⟩|refine And.intro ?_ ?_);done))
end Go.Proofs.YtknelogmocedeaaGreatDoor.Pa
