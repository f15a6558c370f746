/- Several texts, one behind the other. The statements of latinerlaw10, walked: what is shown. No conditions. The statements PartLeast, PartNames, PartBack, PartReads of latinerlaw10, walked. The statement PartBack of latinerlaw10, walked. rep, walked: responses of trees, told. Conditions: as in these contracts. The statements of latinerlaw12, walked: what is shown. No conditions. The statements RepApart, RepCodes and RepBack of latinerlaw12, walked. Cards: what reads of a type is a value that stands in memory as the walks without memory tell it; structs and slices however deep, types that hold themselves. Whatever program. tlv, cards: what reads of a tree's type is a tree. -/
import Derived.Test.YtknelogmocedeaaGreatDoorR30
import Derived.Test.YtknelogmocedeaaGreatDoorR34
import Derived.Test.YtknelogmocedeaaGreatDoorR33
import Derived.Test.YtknelogmocedeaaGreatDoorR11
import Derived.ChangeArms
import Derived.Test.YtknelogmocedeaaGreatDoorR25
namespace Go.Proofs.YtknelogmocedeaaGreatDoor.Pa
open Go.RowKit Go.Shelf Go.Lib Tl Pr
open Fl (bl bt' bl_bt bl_of size_bl)
open Fi (one_arg encS all_take_succ all_bad)
set_option linter.unusedVariables false
def w1:Att:=⟨bt' [97],[bt' [98]]⟩
def w2:Att:=⟨bt' [97],[]⟩
def w3:Nd:=.mk 48 (bt' []) [leafN 4 (bt' [49,46,50]),leafN 1 (bt' [1])]
def w4:Res:=⟨10,bt' [111,61,120],bt' [],[bt' [114]]⟩
def w5:Ctl:=⟨bt' [49,46,50],true,bt' [],false⟩
theorem w1_att:attB w1 1=true:=by decide+kernel
theorem w1_right:rightN (attN w1)=true:=by decide+kernel
theorem w1_lay:layN (attN w1)=[48,8,4,1,97,49,3,4,1,98]:=by decide+kernel
theorem w2_att:attB w2 1=false:=by decide+kernel
theorem w3_read:readC w3=some w5:=by kernel_rfl
theorem w4_res:resB w4=true:=by decide+kernel
theorem w4_read:readR ((resN w4).take 3)=none:=by kernel_rfl
theorem w5_oid:oidB (bt' [49,46,50])=true:=by decide+kernel
theorem w6_oid:oidB (bt' [99,110])=false:=by decide+kernel
theorem w7_dn:dnB (bt' [99,110,61,97])=true:=by decide+kernel
theorem w8_dn:dnB (bt' [99,110])=false:=by decide+kernel
variable (p : Nat → Addr)
set_option maxHeartbeats 4000000 in
theorem shown_fn:Fn Tryz.prog (envX p) 11 [] (.v (.bool true)):=by
 have h1:=Attr_fn p w1 1 ⟨by decide,by decide⟩
 unfold AttT at h1
 rw[if_pos w1_att] at h1
 have h2:=tlvEncode_fn p (attN w1) (by decide)
 unfold encT at h2
 rw[if_pos w1_right,w1_lay] at h2
 have h3:=Attr_fn p w2 1 ⟨by decide,by decide⟩
 unfold AttT at h3
 rw[w2_att,if_neg (by decide)] at h3
 have h4:=ReadControl_fn p w3 ⟨by decide,⟨by decide,trivial⟩,⟨by decide,trivial⟩,trivial⟩
 rw[w3_read] at h4
 unfold ctlG at h4
 have h5:=Result_fn p w4 ⟨by decide,by decide,by decide,by decide⟩
 unfold ResT at h5
 rw[if_pos w4_res] at h5
 have h6:=ReadResult_fn p ((resN w4).take 3) ⟨by decide,⟨by decide,by decide,trivial⟩,⟨by decide,by decide,trivial⟩,⟨by decide,by decide,trivial⟩,trivial⟩ (by decide)
 rw[w4_read] at h6
 unfold resG at h6
 have h7:=oid_fn p (bt' [49,46,50])
 rw[w5_oid] at h7
 have h8:=oid_fn p (bt' [99,110])
 rw[w6_oid] at h8
 have h9:=dn_fn p (bt' [99,110,61,97]) (by decide)
 rw[w7_dn] at h9
 have h10:=dn_fn p (bt' [99,110]) (by decide)
 rw[w8_dn] at h10
 refine fn_prog (tab_nz tabOk) mixed Tryz.f11 Tryz.func11 (by kernel_rfl) (by kernel_rfl) ?_
 conv=>whnf
 (refine st_call h1 ?_ rfl rfl ?_;(focus ((repeat' first|exact trivial|exact rfl|exact .inl rfl|exact .inr ⟨rfl,rfl⟩|refine And.intro ?_ ?_);done));conv=>whnf)
 (refine st_call h2 ?_ rfl rfl ?_;(focus ((repeat' first|exact trivial|exact rfl|exact .inl rfl|exact .inr ⟨rfl,rfl⟩|refine And.intro ?_ ?_);done));conv=>whnf)
 (refine st_call h3 ?_ rfl rfl ?_;(focus ((repeat' first|exact trivial|exact rfl|exact .inl rfl|exact .inr ⟨rfl,rfl⟩|refine And.intro ?_ ?_);done));conv=>whnf)
 (refine st_call h4 ?_ rfl rfl ?_;(focus ((repeat' first|exact trivial|exact rfl|exact .inl rfl|exact .inr ⟨rfl,rfl⟩|refine And.intro ?_ ?_);done));conv=>whnf)
 (refine st_call h5 ?_ rfl rfl ?_;(focus ((repeat' first|exact trivial|exact rfl|exact .inl rfl|exact .inr ⟨rfl,rfl⟩|refine And.intro ?_ ?_);done));conv=>whnf)
 refine st_min 3 ?_
 conv=>whnf
 refine st_sub 0 3 rfl rfl (by omega) (by decide) (m:=3) (by intro c hc;obtain⟨y,_,rfl⟩:=List.mem_map.1 hc;rfl) (z:=((resN w4).take 3).map cN) rfl ?_
 conv=>whnf
 (refine st_call h6 ?_ rfl rfl ?_;(focus ((repeat' first|exact trivial|exact rfl|exact .inl rfl|exact .inr ⟨rfl,rfl⟩|refine And.intro ?_ ?_);done));conv=>whnf)
 (repeat' (first | (((with_reducible apply st_call (h7));(focus ((repeat' first|exact trivial|exact rfl|exact .inl rfl|exact .inr ⟨rfl,rfl⟩|refine And.intro ?_ ?_);done));(focus (exact rfl));(focus (exact rfl))) <;> (conv=>whnf)) | (((with_reducible apply st_call (h8));(focus ((repeat' first|exact trivial|exact rfl|exact .inl rfl|exact .inr ⟨rfl,rfl⟩|refine And.intro ?_ ?_);done));(focus (exact rfl));(focus (exact rfl))) <;> (conv=>whnf)) | (((with_reducible apply st_call (h9));(focus ((repeat' first|exact trivial|exact rfl|exact .inl rfl|exact .inr ⟨rfl,rfl⟩|refine And.intro ?_ ?_);done));(focus (exact rfl));(focus (exact rfl))) <;> (conv=>whnf)) | (((with_reducible apply st_call (h10));(focus ((repeat' first|exact trivial|exact rfl|exact .inl rfl|exact .inr ⟨rfl,rfl⟩|refine And.intro ?_ ?_);done));(focus (exact rfl));(focus (exact rfl))) <;> (conv=>whnf)) | ((refine⟨rfl,cmp_true (by decide) ?_⟩) <;> (conv=>whnf)) | ((refine cmp_true rfl ?_) <;> (conv=>whnf)) | fail))
 (focus ((repeat' first|exact trivial|exact rfl|exact .inl rfl|exact .inr ⟨rfl,rfl⟩|refine And.intro ?_ ?_);done))
end Go.Proofs.YtknelogmocedeaaGreatDoor.Pa
namespace Go.Proofs.YtknelogmocedeaaGreatDoor.Pa
open Go.RowKit Go.Shelf Go.Lib Tl Pr
open Fl (bl bt' bl_bt bl_of size_bl)
open Fi (one_arg encS all_take_succ all_bad)
set_option linter.unusedVariables false
variable (p : Nat → Addr)
end Go.Proofs.YtknelogmocedeaaGreatDoor.Pa
namespace Go.Proofs.YtknelogmocedeaaGreatDoor.Pa
open Go.RowKit Go.Shelf Go.Lib Tl Pr
open Fl (bl bt' bl_bt bl_of size_bl)
open Fi (one_arg encS all_take_succ all_bad)
set_option linter.unusedVariables false
variable (p : Nat → Addr)
theorem nd0_mid:midN nd0:=⟨by decide,trivial⟩
theorem nd0_lim:limN nd0:=⟨by decide,by decide,trivial⟩
theorem ctlN_lim{c:Ctl}(h:ctlB c=true):limN (ctlN c):=by
 unfold ctlB oidB Dn.typeB at h
 simp only[Bool.and_eq_true,decide_eq_true_eq,size_bl] at h
 have h1:c.oid.size≤100000000:=by have:=h.1.1.1;omega
 have h2:c.val.size≤100000000:=by have:=h.2.1;omega
 unfold ctlN
 cases c.crit <;> cases c.has
 ·exact⟨by decide,by simp,⟨h1,by decide,trivial⟩,trivial⟩
 ·exact⟨by decide,by simp,⟨h1,by decide,trivial⟩,⟨h2,by decide,trivial⟩,trivial⟩
 ·exact⟨by decide,by simp,⟨h1,by decide,trivial⟩,⟨by decide,by decide,trivial⟩,trivial⟩
 ·exact⟨by decide,by simp,⟨h1,by decide,trivial⟩,⟨by decide,by decide,trivial⟩,⟨h2,by decide,trivial⟩,trivial⟩
theorem int_size(n:Int):(intB n).size≤4:=by
 unfold intB
 split
 ·rename_i w hw
  have:=Pr.least_some hw
  rw[←size_bl,bl_of,intL_len]
  omega
 ·decide
theorem chgN_lim{c:Chg}(h:chgB c=true):limN (chgN c):=⟨by decide,by simp,⟨by have:=int_size c.kind;omega,by decide,trivial⟩,attN_lim (chg_kind h).2,trivial⟩
theorem resN_lim{r:Res}(h:resB r=true):((resN r).length≤100000000∧kidLes 100000000 (resN r))∧shortT (resN r):=by
 have hr:=h
 unfold resB refsB dnB allSz at h
 simp only[Bool.and_eq_true,decide_eq_true_eq,List.all_eq_true] at h
 obtain⟨_,_,⟨_,h1⟩,_,h2,⟨_,h3,h4⟩,_⟩:=h
 have hi:=int_size r.code
 have hk:∀l:List ByteArray,(∀x∈l,x.size≤60)→kidLes 100000000 (l.map (leafN 4)):=by
  intro l
  induction l with
  | nil=>intro _;trivial
  | cons x q ih=>intro h;exact⟨⟨by have:=h x (by simp);omega,by decide,trivial⟩,ih fun y hy=>h y (by simp[hy])⟩
 refine⟨⟨by have:=resN_len r;omega,?_⟩,?_⟩
 ·unfold resN
  split
  ·exact⟨⟨by omega,by decide,trivial⟩,⟨by omega,by decide,trivial⟩,⟨by omega,by decide,trivial⟩,⟨by decide,by rw[List.length_map];omega,hk _ h4⟩,trivial⟩
  ·exact⟨⟨by omega,by decide,trivial⟩,⟨by omega,by decide,trivial⟩,⟨by omega,by decide,trivial⟩,trivial⟩
 ·intro x hx
  have key:x∈[numN r.code,leafN 4 r.dn,leafN 4 r.text]∨x=leavesN 163 r.refs:=by
   unfold resN at hx
   rcases List.mem_append.1 hx with hx | hx
   ·exact .inl hx
   ·split at hx
    ·exact .inr (List.mem_singleton.1 hx)
    ·cases hx
  rcases key with hx | rfl
  ·simp only[List.mem_cons,List.not_mem_nil,or_false] at hx
   rcases hx with rfl | rfl | rfl
   ·show(intB r.code).size≤_;omega
   ·show r.dn.size≤_;omega
   ·show r.text.size≤_;omega
  ·exact(by decide:(bt' []).size≤1000000)
theorem sameA_refl(a:Att):sameA a a=true:=by unfold sameA;simp
theorem sameR_refl(a:Res):sameR a a=true:=by unfold sameR;simp
set_option maxHeartbeats 8000000 in
theorem back_law(c0:Ctl)(x0:Att)(y0:Chg)(z0:Res):Fn Tryz.prog (envX p) 6 [.v (.agg (cCtl c0)),.v (.agg (cAtt x0)),.v (.agg (cChg y0)),.v (.agg (cRes z0))] (.v (.bool true)):=by
 have hc:=CutC_fn (X:=envX p) c0
 have hx:=CutA_fn (X:=envX p) x0
 have hy:=CutH_fn (X:=envX p) y0
 have hz:=CutR_fn (X:=envX p) z0
 have mx:=CutA_mid x0
 have my:midA (CutH y0).att:=CutA_mid y0.att
 have mz:=CutR_mid z0
 generalize CutC c0=c at*
 generalize CutA x0=x at*
 generalize CutH y0=y at*
 generalize CutR z0=z at*
 obtain⟨n1,e1,c1,f1,C1,C2,C3⟩:∃(n:Nd) (e:Int) (c':Ctl) (f:Int),Fn Tryz.prog (envX p) 21 [.v (.agg (cCtl c))] (.tup [.v (.agg (cM n)),.v (.int .i64 e)])∧Fn Tryz.prog (envX p) 22 [.v (.agg (cM n))] (.tup [.v (.agg (cCtl c')),.v (.int .i64 f)])∧(e=0→f=0∧c'=c):=by
  have h1:=Control_fn p c
  unfold CtlT at h1
  cases hB:ctlB c
  ·rw[hB,if_neg (by decide)] at h1
   exact⟨nd0,100,ctl0,100,h1,ReadControl_fn p nd0 nd0_mid,fun h=>by cases h⟩
  ·rw[hB,if_pos rfl] at h1
   have h2:=ReadControl_fn p (ctlN c) (limN_mid (ctlN_lim hB))
   rw[read_ctl hB] at h2
   exact⟨_,0,c,0,h1,h2,fun _=>⟨rfl,rfl⟩⟩
 obtain⟨n2,e2,c2,f2,A1,A2,A3⟩:∃(n:Nd) (e:Int) (c':Att) (f:Int),Fn Tryz.prog (envX p) 13 [.v (.agg (cAtt x)),.v (.int .i64 0)] (.tup [.v (.agg (cM n)),.v (.int .i64 e)])∧Fn Tryz.prog (envX p) 25 [.v (.agg (cM n)),.v (.int .i64 0)] (.tup [.v (.agg (cAtt c')),.v (.int .i64 f)])∧(e=0→f=0∧Fn Tryz.prog (envX p) 30 [.v (.agg (cAtt c')),.v (.agg (cAtt x))] (.v (.bool true))):=by
  have h1:=Attr_fn p x 0 mx
  unfold AttT at h1
  cases hB:attB x 0
  ·rw[hB,if_neg (by decide)] at h1
   exact⟨nd0,100,att0,100,h1,ReadAttr_fn p nd0 nd0_lim 0,fun h=>by cases h⟩
  ·rw[hB,if_pos rfl] at h1
   have h2:=ReadAttr_fn p (attN x) (attN_lim hB) 0
   rw[read_att hB] at h2
   have h3:=sameAttr_fn (X:=envX p) x x (by have:=mx.2;omega)
   rw[sameA_refl] at h3
   exact⟨_,0,x,0,h1,h2,fun _=>⟨rfl,h3⟩⟩
 obtain⟨n3,e3,c3,f3,B1,B2,B3⟩:∃(n:Nd) (e:Int) (c':Chg) (f:Int),Fn Tryz.prog (envX p) 26 [.v (.agg (cChg y))] (.tup [.v (.agg (cM n)),.v (.int .i64 e)])∧Fn Tryz.prog (envX p) 27 [.v (.agg (cM n))] (.tup [.v (.agg (cChg c')),.v (.int .i64 f)])∧(e=0→f=0∧c'.kind=y.kind∧Fn Tryz.prog (envX p) 30 [.v (.agg (cAtt c'.att)),.v (.agg (cAtt y.att))] (.v (.bool true))):=by
  have h1:=Change_fn p y my
  unfold ChgT at h1
  cases hB:chgB y
  ·rw[hB,if_neg (by decide)] at h1
   exact⟨nd0,100,chg0,100,h1,ReadChange_fn p nd0 nd0_lim,fun h=>by cases h⟩
  ·rw[hB,if_pos rfl] at h1
   have h2:=ReadChange_fn p (chgN y) (chgN_lim hB)
   rw[read_chg hB] at h2
   have h3:=sameAttr_fn (X:=envX p) y.att y.att (by have:=my.2;omega)
   rw[sameA_refl] at h3
   exact⟨_,0,y,0,h1,h2,fun _=>⟨rfl,rfl,h3⟩⟩
 obtain⟨n4,e4,c4,f4,R1,R2,R3⟩:∃(l:List Nd) (e:Int) (c':Res) (f:Int),Fn Tryz.prog (envX p) 28 [.v (.agg (cRes z))] (.tup [.v (.sl (l.map cM)),.v (.int .i64 e)])∧Fn Tryz.prog (envX p) 29 [.v (.sl (l.map cM))] (.tup [.v (.agg (cRes c')),.v (.int .i64 f)])∧(e=0→f=0∧Fn Tryz.prog (envX p) 31 [.v (.agg (cRes c')),.v (.agg (cRes z))] (.v (.bool true))):=by
  have hmap:∀m:List Nd,m.map cM=m.map cN:=fun m=>List.map_congr_left fun x _=>(cM_eq x).symm
  have h1:=Result_fn p z mz
  unfold ResT at h1
  cases hB:resB z
  ·rw[hB,if_neg (by decide)] at h1
   exact⟨[],100,res0,100,h1,ReadResult_fn p [] ⟨by decide,trivial⟩ (fun x hx=>by cases hx),fun h=>by cases h⟩
  ·rw[hB,if_pos rfl] at h1
   have h2:=ReadResult_fn p (resN z) (resN_lim hB).1 (resN_lim hB).2
   rw[read_res hB,←hmap] at h2
   have h3:=sameResult_fn (X:=envX p) z z (by have:=mz.refs.1;omega)
   rw[sameR_refl] at h3
   exact⟨_,0,z,0,h1,h2,fun _=>⟨rfl,h3⟩⟩
 refine fn_prog tabOk mixed Tryz.f6 Tryz.func6 (by kernel_rfl) (by kernel_rfl) ?_
 conv=>whnf
 (refine st_call (shown_fn p) ?_ rfl rfl ?_;(focus ((repeat' first|exact trivial|exact rfl|exact .inl rfl|exact .inr ⟨rfl,rfl⟩|refine And.intro ?_ ?_);done));conv=>whnf)
 (refine st_call hc ?_ rfl rfl ?_;(focus ((repeat' first|exact trivial|exact rfl|exact .inl rfl|exact .inr ⟨rfl,rfl⟩|refine And.intro ?_ ?_);done));conv=>whnf)
 (refine st_call hx ?_ rfl rfl ?_;(focus ((repeat' first|exact trivial|exact rfl|exact .inl rfl|exact .inr ⟨rfl,rfl⟩|refine And.intro ?_ ?_);done));conv=>whnf)
 (refine st_call hy ?_ rfl rfl ?_;(focus ((repeat' first|exact trivial|exact rfl|exact .inl rfl|exact .inr ⟨rfl,rfl⟩|refine And.intro ?_ ?_);done));conv=>whnf)
 (refine st_call hz ?_ rfl rfl ?_;(focus ((repeat' first|exact trivial|exact rfl|exact .inl rfl|exact .inr ⟨rfl,rfl⟩|refine And.intro ?_ ?_);done));conv=>whnf)
 (refine st_call C1 ?_ rfl rfl ?_;(focus ((repeat' first|exact trivial|exact rfl|exact .inl rfl|exact .inr ⟨rfl,rfl⟩|refine And.intro ?_ ?_);done));conv=>whnf)
 (refine st_call C2 ?_ rfl rfl ?_;(focus ((repeat' first|exact trivial|exact rfl|exact .inl rfl|exact .inr ⟨rfl,rfl⟩|refine And.intro ?_ ?_);done));conv=>whnf)
 (refine st_call A1 ?_ rfl rfl ?_;(focus ((repeat' first|exact trivial|exact rfl|exact .inl rfl|exact .inr ⟨rfl,rfl⟩|refine And.intro ?_ ?_);done));conv=>whnf)
 (refine st_call A2 ?_ rfl rfl ?_;(focus ((repeat' first|exact trivial|exact rfl|exact .inl rfl|exact .inr ⟨rfl,rfl⟩|refine And.intro ?_ ?_);done));conv=>whnf)
 (refine st_call B1 ?_ rfl rfl ?_;(focus ((repeat' first|exact trivial|exact rfl|exact .inl rfl|exact .inr ⟨rfl,rfl⟩|refine And.intro ?_ ?_);done));conv=>whnf)
 (refine st_call B2 ?_ rfl rfl ?_;(focus ((repeat' first|exact trivial|exact rfl|exact .inl rfl|exact .inr ⟨rfl,rfl⟩|refine And.intro ?_ ?_);done));conv=>whnf)
 (refine st_call R1 ?_ rfl rfl ?_;(focus ((repeat' first|exact trivial|exact rfl|exact .inl rfl|exact .inr ⟨rfl,rfl⟩|refine And.intro ?_ ?_);done));conv=>whnf)
 (refine st_call R2 ?_ rfl rfl ?_;(focus ((repeat' first|exact trivial|exact rfl|exact .inl rfl|exact .inr ⟨rfl,rfl⟩|refine And.intro ?_ ?_);done));conv=>whnf)
 refine⟨rfl,cmp_split (fun h1=>?_) (fun h1=>?_)⟩ <;> (conv=>whnf)
 rotate_left
 obtain⟨e,d⟩:=C3 (Decidable.not_not.1 h1)
 refine⟨rfl,cmp_true e ?_⟩
 conv=>whnf
 refine cmp_true (congrArg cCtl d) ?_
 conv=>whnf
 all_goals
  refine⟨rfl,cmp_split (fun h2=>?_) (fun h2=>?_)⟩ <;> (conv=>whnf)
  rotate_left
  obtain⟨e,d⟩:=A3 (Decidable.not_not.1 h2)
  refine⟨rfl,cmp_true e ?_⟩
  conv=>whnf
  (refine st_call d ?_ rfl rfl ?_;(focus ((repeat' first|exact trivial|exact rfl|exact .inl rfl|exact .inr ⟨rfl,rfl⟩|refine And.intro ?_ ?_);done));conv=>whnf)
  all_goals
   refine⟨rfl,cmp_split (fun h3=>?_) (fun h3=>?_)⟩ <;> (conv=>whnf)
   rotate_left
   obtain⟨e,d0,d⟩:=B3 (Decidable.not_not.1 h3)
   refine⟨rfl,cmp_true e ?_⟩
   conv=>whnf
   refine⟨rfl,cmp_true d0 ?_⟩
   conv=>whnf
   (refine st_call d ?_ rfl rfl ?_;(focus ((repeat' first|exact trivial|exact rfl|exact .inl rfl|exact .inr ⟨rfl,rfl⟩|refine And.intro ?_ ?_);done));conv=>whnf)
   all_goals
    refine⟨rfl,cmp_split (fun h4=>?_) (fun h4=>?_)⟩ <;> (conv=>whnf)
    rotate_left
    obtain⟨e,d⟩:=R3 (Decidable.not_not.1 h4)
    refine⟨rfl,cmp_true e ?_⟩
    conv=>whnf
    (refine st_call d ?_ rfl rfl ?_;(focus ((repeat' first|exact trivial|exact rfl|exact .inl rfl|exact .inr ⟨rfl,rfl⟩|refine And.intro ?_ ?_);done));conv=>whnf)
    all_goals (focus ((repeat' first|exact trivial|exact rfl|exact .inl rfl|exact .inr ⟨rfl,rfl⟩|refine And.intro ?_ ?_);done))
end Go.Proofs.YtknelogmocedeaaGreatDoor.Pa
namespace Go.Proofs.YtknelogmocedeaaGreatDoor.Rp
open Go.RowKit Go.Shelf Go.Lib Tl Pr Pa Ms
open Fl (bl bt' bl_bt bl_of size_bl Flt)
open Fi (one_arg encS cF cG midF all_take_succ all_bad)
set_option linter.unusedVariables false
variable (p : Nat → Addr)
theorem filt_len{m:Msg}(h:midM m):m.search.filt.any.length≤100000000∧m.search.filt.l.length≤100000000:=by
 have:=h.filt
 cases hf:m.search.filt with
 | mk k n v a f l=>
  rw[hf] at this
  exact⟨this.2.2.2.1,this.2.2.2.2.1⟩
theorem repN_lim{m:Msg}{s:Shp}(h:repS m=some s):limN (repN m s)∧shortT (kidsN m s)∧(kidsN m s).length≤12:=by
 obtain⟨hs,hO,hM⟩:=repS_some h
 unfold mayB at hM
 simp only[Bool.and_eq_true,Bool.or_eq_true,decide_eq_true_eq,List.all_eq_true] at hM
 obtain⟨r1,⟨r2,_⟩,r4,⟨rl,r3⟩,⟨rr,r5,_⟩,r6⟩:=hM
 have hdn:m.dn.size≤1000000:=by
  unfold dnB at r6
  simp only[Bool.and_eq_true,decide_eq_true_eq] at r6
  have:=r6.2
  omega
 have hoid:m.ext.oid.size≤1000000:=by
  rcases r4 with h | h
  ·omega
  ·unfold oidB Dn.typeB at h
   simp only[Bool.and_eq_true,decide_eq_true_eq,size_bl] at h
   have:=h.1.1
   omega
 have hres:=resN_lim r1
 have hat:kidLes 100000000 (m.attrs.map attN):=kidLes_all fun x hx=>by
  obtain⟨a,ha,rfl⟩:=List.mem_map.1 hx
  exact attN_lim (r3 a ha)
 have hmem:∀x∈kidsN m s,kidLe 100000000 x∧x.data.size≤1000000:=by
  intro x hx
  unfold kidsN at hx
  rcases List.mem_append.1 hx with hx | hx
  ·split at hx
   ·exact⟨kidLes_mem hres.1.2 x hx,hres.2 x hx⟩
   ·cases hx
  rcases List.mem_append.1 hx with hx | hx
  ·split at hx
   ·simp only[List.mem_cons,List.not_mem_nil,or_false] at hx
    rcases hx with rfl | rfl
    ·exact⟨⟨by omega,by decide,trivial⟩,hdn⟩
    ·exact⟨⟨by decide,by rw[List.length_map];omega,hat⟩,(by decide:(bt' []).size≤1000000)⟩
   ·cases hx
  rcases List.mem_append.1 hx with hx | hx
  ·obtain⟨y,hy,rfl⟩:=List.mem_map.1 hx
   have:=r5 y hy
   unfold refB at this
   simp only[Bool.and_eq_true,decide_eq_true_eq] at this
   have hz:=this.2.1
   exact⟨⟨by omega,by decide,trivial⟩,(by omega:y.size≤1000000)⟩
  rcases List.mem_append.1 hx with hx | hx
  ·split at hx
   ·cases hx
   ·rw[List.mem_singleton.1 hx];exact⟨⟨by omega,by decide,trivial⟩,hoid⟩
  ·split at hx
   ·rw[List.mem_singleton.1 hx];exact⟨⟨by omega,by decide,trivial⟩,(by omega:m.ext.val.size≤1000000)⟩
   ·cases hx
 have hlen:(kidsN m s).length≤12:=by
  unfold kidsN
  simp only[List.length_append,List.length_map]
  have:=resN_len m.result
  split <;> split <;> split <;> split <;> simp <;> omega
 exact⟨⟨by decide,by have:=hlen;omega,kidLes_all fun x hx=>(hmem x hx).1⟩,fun x hx=>(hmem x hx).2,hlen⟩
def readU(n:Nd):T:=match readP n with
 | some m=>.tup [.v (.agg (cMsg m)),.v .nili]
 | none=>.tup [.v (.agg (cMsg msg0)),.v (reErr (n.tag - 96))]
def readG(n:Nd):T:=match readP n with
 | some m=>.tup [.v (.agg (cMsg m)),.v (.int .i64 0)]
 | none=>.tup [.v (.agg (cMsg msg0)),.v (.int .i64 120)]
set_option maxRecDepth 100000 in
set_option maxHeartbeats 16000000 in
theorem read_fn(n:Nd)(ht: -1000000≤n.tag∧n.tag≤1000000)(hn:limN n)(hz:shortT n.kids)(hM:∀s,shapeF (n.tag - 96)=some s→midM (takeM (n.tag - 96) s n.kids)):Fn Tryz.prog (envX p) 77 [.v (.agg (cM n))] (readU n):=by
 have hs:=shaped_fn (X:=envX p) (n.tag - 96)
 unfold readU readP
 cases hS:shapeF (n.tag - 96) with
 | none=>
  rw[hS] at hs
  refine fn_prog (tab_nz tabOk) mixed Tryz.f77 Tryz.func77 (by kernel_rfl) (by kernel_rfl) ?_
  conv=>whnf
  refine⟨rfl,n.tag - 96,wrap64 (by omega) (by omega),?_⟩
  conv=>whnf
  (refine st_call hs ?_ rfl rfl ?_;(focus ((repeat' first|exact trivial|exact rfl|exact .inl rfl|exact .inr ⟨rfl,rfl⟩|refine And.intro ?_ ?_);done));conv=>whnf)
  (focus ((repeat' first|exact trivial|exact rfl|exact .inl rfl|exact .inr ⟨rfl,rfl⟩|refine And.intro ?_ ?_);done))
 | some s=>
  rw[hS] at hs
  have hm:=hM s hS
  have hk:=take_fn p (n.tag - 96) s n.kids (kidLe_at hn).2 hz
  have hT:=Tree_fn p _ hm (filt_len hm).1 (filt_len hm).2
  unfold treeT at hT
  dsimp only
  cases hR:repS (takeM (n.tag - 96) s n.kids) with
  | none=>
   rw[hR] at hT
   refine fn_prog tabOk mixed Tryz.f77 Tryz.func77 (by kernel_rfl) (by kernel_rfl) ?_
   conv=>whnf
   refine⟨rfl,n.tag - 96,wrap64 (by omega) (by omega),?_⟩
   conv=>whnf
   (refine st_call hs ?_ rfl rfl ?_;(focus ((repeat' first|exact trivial|exact rfl|exact .inl rfl|exact .inr ⟨rfl,rfl⟩|refine And.intro ?_ ?_);done));conv=>whnf)
   (refine st_callM [32] (hk) rfl ?_ ?_ rfl ?_;(focus ((repeat' first|exact trivial|exact rfl|exact .inl rfl|exact .inr ⟨rfl,rfl⟩|refine And.intro ?_ ?_);done));(focus ((repeat' first|exact trivial|exact rfl|exact .inl rfl|exact .inr ⟨rfl,rfl⟩|refine And.intro ?_ ?_);done));conv=>whnf)
   (refine st_call hT ?_ rfl rfl ?_;(focus ((repeat' first|exact trivial|exact rfl|exact .inl rfl|exact .inr ⟨rfl,rfl⟩|refine And.intro ?_ ?_);done));conv=>whnf)
   refine⟨rfl,cmp_true (by decide) ?_⟩
   conv=>whnf
   (focus ((repeat' first|exact trivial|exact rfl|exact .inl rfl|exact .inr ⟨rfl,rfl⟩|refine And.intro ?_ ?_);done))
  | some s'=>
   rw[hR] at hT
   have hq:=Tl.same_fn (X:=envX p) (repN (takeM (n.tag - 96) s n.kids) s') n (limN_mid (repN_lim hR).1) (limN_mid hn)
   dsimp only
   cases hb:sameN (repN (takeM (n.tag - 96) s n.kids) s') n <;> rw[hb] at hq
   ·rw[if_neg (by decide)]
    refine fn_prog tabOk mixed Tryz.f77 Tryz.func77 (by kernel_rfl) (by kernel_rfl) ?_
    conv=>whnf
    refine⟨rfl,n.tag - 96,wrap64 (by omega) (by omega),?_⟩
    conv=>whnf
    (refine st_call hs ?_ rfl rfl ?_;(focus ((repeat' first|exact trivial|exact rfl|exact .inl rfl|exact .inr ⟨rfl,rfl⟩|refine And.intro ?_ ?_);done));conv=>whnf)
    (refine st_callM [32] (hk) rfl ?_ ?_ rfl ?_;(focus ((repeat' first|exact trivial|exact rfl|exact .inl rfl|exact .inr ⟨rfl,rfl⟩|refine And.intro ?_ ?_);done));(focus ((repeat' first|exact trivial|exact rfl|exact .inl rfl|exact .inr ⟨rfl,rfl⟩|refine And.intro ?_ ?_);done));conv=>whnf)
    (refine st_call hT ?_ rfl rfl ?_;(focus ((repeat' first|exact trivial|exact rfl|exact .inl rfl|exact .inr ⟨rfl,rfl⟩|refine And.intro ?_ ?_);done));conv=>whnf)
    refine⟨rfl,cmp_false (by decide) ?_⟩
    conv=>whnf
    (refine st_call hq ?_ rfl rfl ?_;(focus ((repeat' first|exact trivial|exact rfl|exact .inl rfl|exact .inr ⟨rfl,rfl⟩|refine And.intro ?_ ?_);done));conv=>whnf)
    (focus ((repeat' first|exact trivial|exact rfl|exact .inl rfl|exact .inr ⟨rfl,rfl⟩|refine And.intro ?_ ?_);done))
   ·rw[if_pos rfl]
    refine fn_prog tabOk mixed Tryz.f77 Tryz.func77 (by kernel_rfl) (by kernel_rfl) ?_
    conv=>whnf
    refine⟨rfl,n.tag - 96,wrap64 (by omega) (by omega),?_⟩
    conv=>whnf
    (refine st_call hs ?_ rfl rfl ?_;(focus ((repeat' first|exact trivial|exact rfl|exact .inl rfl|exact .inr ⟨rfl,rfl⟩|refine And.intro ?_ ?_);done));conv=>whnf)
    (refine st_callM [32] (hk) rfl ?_ ?_ rfl ?_;(focus ((repeat' first|exact trivial|exact rfl|exact .inl rfl|exact .inr ⟨rfl,rfl⟩|refine And.intro ?_ ?_);done));(focus ((repeat' first|exact trivial|exact rfl|exact .inl rfl|exact .inr ⟨rfl,rfl⟩|refine And.intro ?_ ?_);done));conv=>whnf)
    (refine st_call hT ?_ rfl rfl ?_;(focus ((repeat' first|exact trivial|exact rfl|exact .inl rfl|exact .inr ⟨rfl,rfl⟩|refine And.intro ?_ ?_);done));conv=>whnf)
    refine⟨rfl,cmp_false (by decide) ?_⟩
    conv=>whnf
    (refine st_call hq ?_ rfl rfl ?_;(focus ((repeat' first|exact trivial|exact rfl|exact .inl rfl|exact .inr ⟨rfl,rfl⟩|refine And.intro ?_ ?_);done));conv=>whnf)
    (focus ((repeat' first|exact trivial|exact rfl|exact .inl rfl|exact .inr ⟨rfl,rfl⟩|refine And.intro ?_ ?_);done))
set_option maxRecDepth 100000 in
set_option maxHeartbeats 4000000 in
theorem Read_fn(n:Nd)(ht: -1000000≤n.tag∧n.tag≤1000000)(hn:limN n)(hz:shortT n.kids)(hM:∀s,shapeF (n.tag - 96)=some s→midM (takeM (n.tag - 96) s n.kids)):Fn Tryz.prog (envX p) 39 [.v (.agg (cM n))] (readG n):=by
 have hc:=read_fn p n ht hn hz hM
 unfold readU at hc
 unfold readG
 cases h:readP n <;> rw[h] at hc
 ·refine fn_prog tabOk mixed Tryz.f39 Tryz.func39 (by kernel_rfl) (by kernel_rfl) ?_
  conv=>whnf
  (refine st_call hc ?_ rfl rfl ?_;(focus ((repeat' first|exact trivial|exact rfl|exact .inl rfl|exact .inr ⟨rfl,rfl⟩|refine And.intro ?_ ?_);done));conv=>whnf)
  refine⟨none,by kernel_rfl,?_⟩;conv=>whnf
  (refine st_call (told_wrong_fn p (n.tag - 96)) ?_ rfl rfl ?_;(focus ((repeat' first|exact trivial|exact rfl|exact .inl rfl|exact .inr ⟨rfl,rfl⟩|refine And.intro ?_ ?_);done));conv=>whnf)
  (focus ((repeat' first|exact trivial|exact rfl|exact .inl rfl|exact .inr ⟨rfl,rfl⟩|refine And.intro ?_ ?_);done))
 ·refine fn_prog tabOk mixed Tryz.f39 Tryz.func39 (by kernel_rfl) (by kernel_rfl) ?_
  conv=>whnf
  (refine st_call hc ?_ rfl rfl ?_;(focus ((repeat' first|exact trivial|exact rfl|exact .inl rfl|exact .inr ⟨rfl,rfl⟩|refine And.intro ?_ ?_);done));conv=>whnf)
  refine⟨none,by kernel_rfl,?_⟩;conv=>whnf
  (refine st_call (told_nil_fn p) ?_ rfl rfl ?_;(focus ((repeat' first|exact trivial|exact rfl|exact .inl rfl|exact .inr ⟨rfl,rfl⟩|refine And.intro ?_ ?_);done));conv=>whnf)
  (focus ((repeat' first|exact trivial|exact rfl|exact .inl rfl|exact .inr ⟨rfl,rfl⟩|refine And.intro ?_ ?_);done))
end Go.Proofs.YtknelogmocedeaaGreatDoor.Rp
namespace Go.Proofs.YtknelogmocedeaaGreatDoor.Rp
open Go.RowKit Go.Shelf Go.Lib Tl Pr Pa Ms
open Fl (bl bt' bl_bt bl_of size_bl Flt)
open Fi (one_arg encS cF cG midF all_take_succ all_bad)
set_option linter.unusedVariables false
def anKs:List V:=[.int .i64 0,.int .i64 3,.int .i64 6,.int .i64 8,.int .i64 10,.int .i64 12,.int .i64 14,.int .i64 23]
def anVs:List V:=[.int .i64 1,.int .i64 5,.int .i64 7,.int .i64 9,.int .i64 11,.int .i64 13,.int .i64 15,.int .i64 24]
theorem answers_fn{X:En}:Fn Tryz.prog X 107 [] (.v (.mp anKs anVs)):=by
 refine fn_prog tabOk mixed Tryz.f107 Tryz.func107 (by kernel_rfl) (by kernel_rfl) ?_
 conv=>whnf
 exact⟨.inl rfl,rfl⟩
theorem Answers_three{X:En}:Fn Tryz.prog X 69 [.v (.int .i64 3)] (.v (.int .i64 5)):=by
 refine fn_prog tabOk mixed Tryz.f69 Tryz.func69 (by kernel_rfl) (by kernel_rfl) ?_
 conv=>whnf
 (refine st_call answers_fn ?_ rfl rfl ?_;(focus ((repeat' first|exact trivial|exact rfl|exact .inl rfl|exact .inr ⟨rfl,rfl⟩|refine And.intro ?_ ?_);done));conv=>whnf)
 refine⟨some (.int .i64 5),rfl,?_⟩
 conv=>whnf
 (focus ((repeat' first|exact trivial|exact rfl|exact .inl rfl|exact .inr ⟨rfl,rfl⟩|refine And.intro ?_ ?_);done))
theorem midM_O(op:Int)(d:ByteArray)(hd:d.size≤1000000)(x:Xt)(r:Res)(hr:midR r):midM {msgO op with dn:=d,ext:=x,result:=r}:=
 have e:(bt' []).size≤1000000:=by decide
 have e8:(bt' []).size≤100000000:=by decide
 ⟨hd,⟨Nat.zero_le _,fun a h=>by cases h⟩,⟨Nat.zero_le _,fun a h=>by cases h⟩,Nat.zero_le _,⟨e8,e8,e8,Nat.zero_le _,Nat.zero_le _,trivial⟩,⟨Nat.zero_le _,fun a h=>by cases h⟩,⟨e,e⟩,⟨e,e⟩,hr,⟨Nat.zero_le _,fun a h=>by cases h⟩⟩
theorem midR_code(c:Int):midR ⟨c,bt' [],bt' [],[]⟩:=
 have e:(bt' []).size≤1000000:=by decide
 have e9:(bt' []).size≤1000000000:=by decide
 ⟨e,e9,Nat.zero_le _,fun s h=>by cases h⟩
def z1:Msg:=msgO 5
def z2:Nd:=.mk 121 (bt' []) [leafN 129 (bt' [118])]
def z3:Nd:=.mk 115 (bt' []) []
def z4:Msg:={msgO 5 with dn:=bt' [111,61,120]}
def z5:Msg:={msgO 25 with ext:=⟨bt' [],bt' [118],true⟩}
def zs:Shp:=⟨true,false,false,false,false,0,0⟩
theorem z1_rep:repS z1=some zs:=by kernel_rfl
theorem z1_right:rightN (repN z1 zs)=true:=by decide+kernel
theorem z1_lay:layN (repN z1 zs)=[101,7,10,1,0,4,0,4,0]:=by decide+kernel
theorem z2_read:readP z2=some z5:=by kernel_rfl
theorem z3_read:readP z3=none:=by kernel_rfl
theorem z4_rep:repS z4=none:=by kernel_rfl
theorem z2_take:takeM (z2.tag - 96) ⟨false,true,true,false,false,128,129⟩ z2.kids=z5:=by kernel_rfl
theorem z3_take:takeM (z3.tag - 96) ⟨false,false,false,false,true,0,0⟩ z3.kids=msgO 19:=by kernel_rfl
theorem z2_shape{s:Shp}(h:shapeF (z2.tag - 96)=some s):takeM (z2.tag - 96) s z2.kids=z5:=by
 have:s=⟨false,true,true,false,false,128,129⟩:=by
  have h1:shapeF (z2.tag - 96)=some ⟨false,true,true,false,false,128,129⟩:=by kernel_rfl
  rw[h1] at h
  exact(Option.some.inj h).symm
 rw[this]
 exact z2_take
theorem z3_shape{s:Shp}(h:shapeF (z3.tag - 96)=some s):takeM (z3.tag - 96) s z3.kids=msgO 19:=by
 have:s=⟨false,false,false,false,true,0,0⟩:=by
  have h1:shapeF (z3.tag - 96)=some ⟨false,false,false,false,true,0,0⟩:=by kernel_rfl
  rw[h1] at h
  exact(Option.some.inj h).symm
 rw[this]
 exact z3_take
variable (p : Nat → Addr)
set_option maxRecDepth 100000 in
set_option maxHeartbeats 8000000 in
theorem shown_fn:Fn Tryz.prog (envX p) 35 [] (.v (.bool true)):=by
 have h1:=Tree_fn p z1 (midM_O 5 (bt' []) (by decide) xt0 res0 (midR_code 0)) (by decide) (by decide)
 unfold treeT at h1
 rw[z1_rep] at h1
 have h2:=tlvEncode_fn p (repN z1 zs) (by decide)
 unfold encT at h2
 rw[if_pos z1_right,z1_lay] at h2
 have h3:=Read_fn p z2 ⟨by decide,by decide⟩ ⟨by decide,by decide,⟨by decide,by decide,trivial⟩,trivial⟩ (by decide) (fun s hs=>by rw[z2_shape hs];exact midM_O 25 (bt' []) (by decide) _ res0 (midR_code 0))
 unfold readG at h3
 rw[z2_read] at h3
 have h4:=Read_fn p z3 ⟨by decide,by decide⟩ ⟨by decide,by decide,trivial⟩ (by decide) (fun s hs=>by rw[z3_shape hs];exact midM_O 19 (bt' []) (by decide) xt0 res0 (midR_code 0))
 unfold readG at h4
 rw[z3_read] at h4
 have h5:=Tree_fn p z4 (midM_O 5 (bt' [111,61,120]) (by decide) xt0 res0 (midR_code 0)) (by decide) (by decide)
 unfold treeT at h5
 rw[z4_rep] at h5
 have h6:=is_fn (X:=envX p) 4
 rw[show(shapeF 4).isSome=true from by kernel_rfl] at h6
 have h7:=is_fn (X:=envX p) 0
 rw[show(shapeF 0).isSome=false from by kernel_rfl] at h7
 have h8:=Answers_three (X:=envX p)
 refine fn_prog (tab_nz tabOk) mixed Tryz.f35 Tryz.func35 (by kernel_rfl) (by kernel_rfl) ?_
 conv=>whnf
 (refine st_call h1 ?_ rfl rfl ?_;(focus ((repeat' first|exact trivial|exact rfl|exact .inl rfl|exact .inr ⟨rfl,rfl⟩|refine And.intro ?_ ?_);done));conv=>whnf)
 (refine st_call h2 ?_ rfl rfl ?_;(focus ((repeat' first|exact trivial|exact rfl|exact .inl rfl|exact .inr ⟨rfl,rfl⟩|refine And.intro ?_ ?_);done));conv=>whnf)
 (refine st_call h3 ?_ rfl rfl ?_;(focus ((repeat' first|exact trivial|exact rfl|exact .inl rfl|exact .inr ⟨rfl,rfl⟩|refine And.intro ?_ ?_);done));conv=>whnf)
 (refine st_call h4 ?_ rfl rfl ?_;(focus ((repeat' first|exact trivial|exact rfl|exact .inl rfl|exact .inr ⟨rfl,rfl⟩|refine And.intro ?_ ?_);done));conv=>whnf)
 (refine st_call h5 ?_ rfl rfl ?_;(focus ((repeat' first|exact trivial|exact rfl|exact .inl rfl|exact .inr ⟨rfl,rfl⟩|refine And.intro ?_ ?_);done));conv=>whnf)
 (repeat' (first | (((with_reducible apply st_call (h6));(focus ((repeat' first|exact trivial|exact rfl|exact .inl rfl|exact .inr ⟨rfl,rfl⟩|refine And.intro ?_ ?_);done));(focus (exact rfl));(focus (exact rfl))) <;> (conv=>whnf)) | (((with_reducible apply st_call (h7));(focus ((repeat' first|exact trivial|exact rfl|exact .inl rfl|exact .inr ⟨rfl,rfl⟩|refine And.intro ?_ ?_);done));(focus (exact rfl));(focus (exact rfl))) <;> (conv=>whnf)) | (((with_reducible apply st_call (h8));(focus ((repeat' first|exact trivial|exact rfl|exact .inl rfl|exact .inr ⟨rfl,rfl⟩|refine And.intro ?_ ?_);done));(focus (exact rfl));(focus (exact rfl))) <;> (conv=>whnf)) | ((refine⟨rfl,cmp_true (by decide) ?_⟩) <;> (conv=>whnf)) | ((refine cmp_true rfl ?_) <;> (conv=>whnf)) | fail))
 (focus ((repeat' first|exact trivial|exact rfl|exact .inl rfl|exact .inr ⟨rfl,rfl⟩|refine And.intro ?_ ?_);done))
end Go.Proofs.YtknelogmocedeaaGreatDoor.Rp
namespace Go.Proofs.YtknelogmocedeaaGreatDoor.Rp
open Go.RowKit Go.Shelf Go.Lib Tl Pr Pa Ms
open Fl (bl bt' bl_bt bl_of size_bl Flt)
open Fi (one_arg encS cF cG midF all_take_succ all_bad)
set_option linter.unusedVariables false
variable (p : Nat → Addr)
theorem op_small{m:Msg}{s:Shp}(h:repS m=some s):0≤m.op∧m.op≤25:=by
 rcases shape_eq (repS_some h).1 with⟨e,_⟩ | ⟨e,_⟩ | ⟨e,_⟩ | ⟨e,_⟩ | ⟨e,_⟩ | ⟨e,_⟩ <;> omega
theorem read_nd0:Fn Tryz.prog (envX p) 39 [.v (.agg (cM nd0))] (.tup [.v (.agg (cMsg msg0)),.v (.int .i64 120)]):=by
 have h:=Read_fn p nd0 ⟨by decide,by decide⟩ nd0_lim (fun x hx=>by cases hx) (fun s hs=>by
  have h1:shapeF (nd0.tag - 96)=none:=by kernel_rfl
  rw[h1] at hs
  cases hs)
 unfold readG at h
 rw[show readP nd0=none from by kernel_rfl] at h
 exact h
theorem read_of{m:Msg}{s:Shp}(h:repS m=some s)(hm:midM m):Fn Tryz.prog (envX p) 39 [.v (.agg (cM (repN m s)))] (.tup [.v (.agg (cMsg m)),.v (.int .i64 0)]):=by
 have ho:=op_small h
 have e:(repN m s).tag - 96=m.op:=by show 96+m.op - 96=m.op;omega
 have h1:=Read_fn p (repN m s) ⟨by show _≤96+m.op;omega,by show 96+m.op≤_;omega⟩ (repN_lim h).1 (repN_lim h).2.1 (fun s' hs=>by
  rw[e] at hs ⊢
  have h2:=(repS_some h).1
  rw[h2] at hs
  cases hs
  rw[show(repN m s).kids=kidsN m s from rfl,take_rep h]
  exact hm)
 unfold readG at h1
 rw[read_rep h] at h1
 exact h1
set_option maxHeartbeats 8000000 in
set_option maxRecDepth 100000 in
theorem back_law(m0:Msg):Fn Tryz.prog (envX p) 10 [.v (.agg (cMsg m0))] (.v (.bool true)):=by
 have hc:=CutM_fn (X:=envX p) m0
 have hm:=CutM_mid m0
 generalize CutM m0=m at*
 have h1:=Tree_fn p m hm (filt_len hm).1 (filt_len hm).2
 have h2:=Right_fn p m hm (filt_len hm).1 (filt_len hm).2
 have h3:=is_fn (X:=envX p) m.op
 have h4:=Ms.same_fn (X:=envX p) m m hm
 rw[msgE_refl] at h4
 unfold treeT at h1
 unfold repB at h2
 cases hS:repS m with
 | none=>
  rw[hS] at h1 h2
  refine fn_prog tabOk mixed Tryz.f10 Tryz.func10 (by kernel_rfl) (by kernel_rfl) ?_
  conv=>whnf
  (refine st_call (shown_fn p) ?_ rfl rfl ?_;(focus ((repeat' first|exact trivial|exact rfl|exact .inl rfl|exact .inr ⟨rfl,rfl⟩|refine And.intro ?_ ?_);done));conv=>whnf)
  (refine st_call hc ?_ rfl rfl ?_;(focus ((repeat' first|exact trivial|exact rfl|exact .inl rfl|exact .inr ⟨rfl,rfl⟩|refine And.intro ?_ ?_);done));conv=>whnf)
  (refine st_call h1 ?_ rfl rfl ?_;(focus ((repeat' first|exact trivial|exact rfl|exact .inl rfl|exact .inr ⟨rfl,rfl⟩|refine And.intro ?_ ?_);done));conv=>whnf)
  (refine st_call (read_nd0 p) ?_ rfl rfl ?_;(focus ((repeat' first|exact trivial|exact rfl|exact .inl rfl|exact .inr ⟨rfl,rfl⟩|refine And.intro ?_ ?_);done));conv=>whnf)
  (repeat' (first | (((with_reducible apply st_call (h2));(focus ((repeat' first|exact trivial|exact rfl|exact .inl rfl|exact .inr ⟨rfl,rfl⟩|refine And.intro ?_ ?_);done));(focus (exact rfl));(focus (exact rfl))) <;> (conv=>whnf)) | ((refine⟨rfl,cmp_true (by decide) ?_⟩) <;> (conv=>whnf)) | ((refine⟨rfl,cmp_false (by decide) ?_⟩) <;> (conv=>whnf)) | fail))
  (focus ((repeat' first|exact trivial|exact rfl|exact .inl rfl|exact .inr ⟨rfl,rfl⟩|refine And.intro ?_ ?_);done))
 | some s=>
  rw[hS] at h1 h2
  rw[show(shapeF m.op).isSome=true from by rw[(repS_some hS).1];rfl] at h3
  refine fn_prog tabOk mixed Tryz.f10 Tryz.func10 (by kernel_rfl) (by kernel_rfl) ?_
  conv=>whnf
  (refine st_call (shown_fn p) ?_ rfl rfl ?_;(focus ((repeat' first|exact trivial|exact rfl|exact .inl rfl|exact .inr ⟨rfl,rfl⟩|refine And.intro ?_ ?_);done));conv=>whnf)
  (refine st_call hc ?_ rfl rfl ?_;(focus ((repeat' first|exact trivial|exact rfl|exact .inl rfl|exact .inr ⟨rfl,rfl⟩|refine And.intro ?_ ?_);done));conv=>whnf)
  (refine st_call h1 ?_ rfl rfl ?_;(focus ((repeat' first|exact trivial|exact rfl|exact .inl rfl|exact .inr ⟨rfl,rfl⟩|refine And.intro ?_ ?_);done));conv=>whnf)
  (refine st_call (read_of p hS hm) ?_ rfl rfl ?_;(focus ((repeat' first|exact trivial|exact rfl|exact .inl rfl|exact .inr ⟨rfl,rfl⟩|refine And.intro ?_ ?_);done));conv=>whnf)
  (repeat' (first | (((with_reducible apply st_call (h2));(focus ((repeat' first|exact trivial|exact rfl|exact .inl rfl|exact .inr ⟨rfl,rfl⟩|refine And.intro ?_ ?_);done));(focus (exact rfl));(focus (exact rfl))) <;> (conv=>whnf)) | (((with_reducible apply st_call (h3));(focus ((repeat' first|exact trivial|exact rfl|exact .inl rfl|exact .inr ⟨rfl,rfl⟩|refine And.intro ?_ ?_);done));(focus (exact rfl));(focus (exact rfl))) <;> (conv=>whnf)) | (((with_reducible apply st_call (h4));(focus ((repeat' first|exact trivial|exact rfl|exact .inl rfl|exact .inr ⟨rfl,rfl⟩|refine And.intro ?_ ?_);done));(focus (exact rfl));(focus (exact rfl))) <;> (conv=>whnf)) | ((refine⟨rfl,cmp_true (by decide) ?_⟩) <;> (conv=>whnf)) | ((refine⟨rfl,cmp_false (by decide) ?_⟩) <;> (conv=>whnf)) | fail))
  (focus ((repeat' first|exact trivial|exact rfl|exact .inl rfl|exact .inr ⟨rfl,rfl⟩|refine And.intro ?_ ?_);done))
theorem same_rep{x y:Msg}{s t:Shp}(hx:repS x=some s)(hy:repS y=some t):sameN (repN x s) (repN y t)=msgE x y:=by
 by_cases h:x=y
 ·subst h
  rw[hx] at hy
  cases hy
  rw[sameN_refl,msgE_refl]
 ·have h1:msgE x y=false:=Bool.eq_false_iff.2 fun e=>h ((msgE_iff _ _).1 e)
  have h2:sameN (repN x s) (repN y t)=false:=Bool.eq_false_iff.2 fun e=>h (by
   have h3:=read_rep hx
   rw[(sameN_iff _ _).1 e,read_rep hy] at h3
   exact(Option.some.inj h3).symm)
  rw[h1,h2]
set_option maxHeartbeats 16000000 in
set_option maxRecDepth 100000 in
theorem apart_law(x0 y0:Msg):Fn Tryz.prog (envX p) 8 [.v (.agg (cMsg x0)),.v (.agg (cMsg y0))] (.v (.bool true)):=by
 have hc:=CutM_fn (X:=envX p) x0
 have hd:=CutM_fn (X:=envX p) y0
 have mx:=CutM_mid x0
 have my:=CutM_mid y0
 generalize CutM x0=x at*
 generalize CutM y0=y at*
 have h1:=Tree_fn p x mx (filt_len mx).1 (filt_len mx).2
 have h2:=Tree_fn p y my (filt_len my).1 (filt_len my).2
 have h4:=Ms.same_fn (X:=envX p) x y mx
 unfold treeT at h1 h2
 cases hS:repS x with
 | none=>
  rw[hS] at h1
  cases hU:repS y with
  | none=>
   rw[hU] at h2
   refine fn_prog tabOk mixed Tryz.f8 Tryz.func8 (by kernel_rfl) (by kernel_rfl) ?_
   conv=>whnf
   (refine st_call (shown_fn p) ?_ rfl rfl ?_;(focus ((repeat' first|exact trivial|exact rfl|exact .inl rfl|exact .inr ⟨rfl,rfl⟩|refine And.intro ?_ ?_);done));conv=>whnf)
   (refine st_call hc ?_ rfl rfl ?_;(focus ((repeat' first|exact trivial|exact rfl|exact .inl rfl|exact .inr ⟨rfl,rfl⟩|refine And.intro ?_ ?_);done));conv=>whnf)
   (refine st_call hd ?_ rfl rfl ?_;(focus ((repeat' first|exact trivial|exact rfl|exact .inl rfl|exact .inr ⟨rfl,rfl⟩|refine And.intro ?_ ?_);done));conv=>whnf)
   (refine st_call h1 ?_ rfl rfl ?_;(focus ((repeat' first|exact trivial|exact rfl|exact .inl rfl|exact .inr ⟨rfl,rfl⟩|refine And.intro ?_ ?_);done));conv=>whnf)
   (refine st_call h2 ?_ rfl rfl ?_;(focus ((repeat' first|exact trivial|exact rfl|exact .inl rfl|exact .inr ⟨rfl,rfl⟩|refine And.intro ?_ ?_);done));conv=>whnf)
   (repeat' (first | ((refine⟨rfl,cmp_true (by decide) ?_⟩) <;> (conv=>whnf)) | ((refine⟨rfl,cmp_false (by decide) ?_⟩) <;> (conv=>whnf)) | fail))
   (focus ((repeat' first|exact trivial|exact rfl|exact .inl rfl|exact .inr ⟨rfl,rfl⟩|refine And.intro ?_ ?_);done))
  | some t=>
   rw[hU] at h2
   refine fn_prog tabOk mixed Tryz.f8 Tryz.func8 (by kernel_rfl) (by kernel_rfl) ?_
   conv=>whnf
   (refine st_call (shown_fn p) ?_ rfl rfl ?_;(focus ((repeat' first|exact trivial|exact rfl|exact .inl rfl|exact .inr ⟨rfl,rfl⟩|refine And.intro ?_ ?_);done));conv=>whnf)
   (refine st_call hc ?_ rfl rfl ?_;(focus ((repeat' first|exact trivial|exact rfl|exact .inl rfl|exact .inr ⟨rfl,rfl⟩|refine And.intro ?_ ?_);done));conv=>whnf)
   (refine st_call hd ?_ rfl rfl ?_;(focus ((repeat' first|exact trivial|exact rfl|exact .inl rfl|exact .inr ⟨rfl,rfl⟩|refine And.intro ?_ ?_);done));conv=>whnf)
   (refine st_call h1 ?_ rfl rfl ?_;(focus ((repeat' first|exact trivial|exact rfl|exact .inl rfl|exact .inr ⟨rfl,rfl⟩|refine And.intro ?_ ?_);done));conv=>whnf)
   (refine st_call h2 ?_ rfl rfl ?_;(focus ((repeat' first|exact trivial|exact rfl|exact .inl rfl|exact .inr ⟨rfl,rfl⟩|refine And.intro ?_ ?_);done));conv=>whnf)
   (repeat' (first | ((refine⟨rfl,cmp_true (by decide) ?_⟩) <;> (conv=>whnf)) | ((refine⟨rfl,cmp_false (by decide) ?_⟩) <;> (conv=>whnf)) | fail))
   (focus ((repeat' first|exact trivial|exact rfl|exact .inl rfl|exact .inr ⟨rfl,rfl⟩|refine And.intro ?_ ?_);done))
 | some s=>
  rw[hS] at h1
  cases hU:repS y with
  | none=>
   rw[hU] at h2
   refine fn_prog tabOk mixed Tryz.f8 Tryz.func8 (by kernel_rfl) (by kernel_rfl) ?_
   conv=>whnf
   (refine st_call (shown_fn p) ?_ rfl rfl ?_;(focus ((repeat' first|exact trivial|exact rfl|exact .inl rfl|exact .inr ⟨rfl,rfl⟩|refine And.intro ?_ ?_);done));conv=>whnf)
   (refine st_call hc ?_ rfl rfl ?_;(focus ((repeat' first|exact trivial|exact rfl|exact .inl rfl|exact .inr ⟨rfl,rfl⟩|refine And.intro ?_ ?_);done));conv=>whnf)
   (refine st_call hd ?_ rfl rfl ?_;(focus ((repeat' first|exact trivial|exact rfl|exact .inl rfl|exact .inr ⟨rfl,rfl⟩|refine And.intro ?_ ?_);done));conv=>whnf)
   (refine st_call h1 ?_ rfl rfl ?_;(focus ((repeat' first|exact trivial|exact rfl|exact .inl rfl|exact .inr ⟨rfl,rfl⟩|refine And.intro ?_ ?_);done));conv=>whnf)
   (refine st_call h2 ?_ rfl rfl ?_;(focus ((repeat' first|exact trivial|exact rfl|exact .inl rfl|exact .inr ⟨rfl,rfl⟩|refine And.intro ?_ ?_);done));conv=>whnf)
   (repeat' (first | ((refine⟨rfl,cmp_true (by decide) ?_⟩) <;> (conv=>whnf)) | ((refine⟨rfl,cmp_false (by decide) ?_⟩) <;> (conv=>whnf)) | fail))
   (focus ((repeat' first|exact trivial|exact rfl|exact .inl rfl|exact .inr ⟨rfl,rfl⟩|refine And.intro ?_ ?_);done))
  | some t=>
   rw[hU] at h2
   have h3:=Tl.same_fn (X:=envX p) (repN x s) (repN y t) (limN_mid (repN_lim hS).1) (limN_mid (repN_lim hU).1)
   rw[same_rep hS hU] at h3
   have t1:(repN x s).tag=96+x.op:=rfl
   have t2:(repN y t).tag=96+y.op:=rfl
   cases hb:msgE x y <;> rw[hb] at h3 h4 <;> by_cases hop:x.op=y.op
   all_goals
    refine fn_prog tabOk mixed Tryz.f8 Tryz.func8 (by kernel_rfl) (by kernel_rfl) ?_
    conv=>whnf
    (refine st_call (shown_fn p) ?_ rfl rfl ?_;(focus ((repeat' first|exact trivial|exact rfl|exact .inl rfl|exact .inr ⟨rfl,rfl⟩|refine And.intro ?_ ?_);done));conv=>whnf)
    (refine st_call hc ?_ rfl rfl ?_;(focus ((repeat' first|exact trivial|exact rfl|exact .inl rfl|exact .inr ⟨rfl,rfl⟩|refine And.intro ?_ ?_);done));conv=>whnf)
    (refine st_call hd ?_ rfl rfl ?_;(focus ((repeat' first|exact trivial|exact rfl|exact .inl rfl|exact .inr ⟨rfl,rfl⟩|refine And.intro ?_ ?_);done));conv=>whnf)
    (refine st_call h1 ?_ rfl rfl ?_;(focus ((repeat' first|exact trivial|exact rfl|exact .inl rfl|exact .inr ⟨rfl,rfl⟩|refine And.intro ?_ ?_);done));conv=>whnf)
    (refine st_call h2 ?_ rfl rfl ?_;(focus ((repeat' first|exact trivial|exact rfl|exact .inl rfl|exact .inr ⟨rfl,rfl⟩|refine And.intro ?_ ?_);done));conv=>whnf)
    refine⟨rfl,cmp_false (by decide) ?_⟩
    conv=>whnf
    refine⟨rfl,cmp_false (by decide) ?_⟩
    conv=>whnf
    refine⟨some [0,1,2,3,5,6,4,7,8,9,10,11,12,13,14,15,16,17,18,19,20,21,22,23],by kernel_rfl,?_⟩;conv=>whnf
    (repeat' (first | (((with_reducible apply st_call (h3));(focus ((repeat' first|exact trivial|exact rfl|exact .inl rfl|exact .inr ⟨rfl,rfl⟩|refine And.intro ?_ ?_);done));(focus (exact rfl));(focus (exact rfl))) <;> (conv=>whnf)) | (((with_reducible apply st_call (h4));(focus ((repeat' first|exact trivial|exact rfl|exact .inl rfl|exact .inr ⟨rfl,rfl⟩|refine And.intro ?_ ?_);done));(focus (exact rfl));(focus (exact rfl))) <;> (conv=>whnf)) | ((refine cmp_true rfl ?_) <;> (conv=>whnf)) | ((refine⟨rfl,cmp_true (by omega) ?_⟩) <;> (conv=>whnf)) | ((refine⟨rfl,cmp_false (by omega) ?_⟩) <;> (conv=>whnf)) | fail))
    (focus ((repeat' first|exact trivial|exact rfl|exact .inl rfl|exact .inr ⟨rfl,rfl⟩|refine And.intro ?_ ?_);done))
end Go.Proofs.YtknelogmocedeaaGreatDoor.Rp
namespace Go.Proofs.YtknelogmocedeaaGreatDoor
open Go.RowKit
set_option linter.unusedVariables false
def OpV(P:Program)(w:World)(n:Nat)(t:TypeId)(G:List V→Prop):Prop:=∀(H:Type) (enc:TypeId×Value→H) fuel,fuel≤n→∀cs y,DataW.trod enc P w 0 (fun _=>true) true fuel t cs=some y→∃l,RepL w (Lall w) l cs∧G l
theorem OpV.mono {P:Program}{w:World}{n m:Nat}{t:TypeId}{G:List V→Prop}(h:OpV P w n t G)(hm:m≤n):OpV P w m t G:=fun H enc fuel hf cs y hd=>h H enc fuel (Nat.le_trans hf hm) cs y hd
theorem OpV.imp {P:Program}{w:World}{n:Nat}{t:TypeId}{G G':List V→Prop}(h:OpV P w n t G)(hi:∀l,G l→G' l):OpV P w n t G':=fun H enc fuel hf cs y hd=>let ⟨l,h1,h2⟩:=h H enc fuel hf cs y hd;⟨l,h1,hi l h2⟩
def GStr:List V→Prop:=fun l=>∃s:ByteArray,l=[.str s]
def GInt(k:IntKind):List V→Prop:=fun l=>∃n:Int,l=[.int k n]∧(Lit.int k n).wf=true
def GBool:List V→Prop:=fun l=>∃b:Bool,l=[.bool b]
def GSl(G:List V→Prop):List V→Prop:=fun l=>∃xs:List (List V),l=[.sl xs]∧∀c∈xs,G c
theorem opV_str{P:Program}{w:World}{n:Nat}{t:TypeId}(ht:P.underlying t=some .string):OpV P w n t GStr:=by
 intro H enc fuel _ cs y h
 cases fuel with
 | zero=>simp[DataW.trod] at h
 | succ n=>
  unfold DataW.trod at h
  rw[ht] at h
  split at h <;> simp_all
  exact⟨[.str _],⟨_,[],rfl,rfl,rfl,rfl⟩,_,rfl⟩
theorem opV_int{P:Program}{w:World}{n:Nat}{t:TypeId}{k:IntKind}(ht:P.underlying t=some (.int k)):OpV P w n t (GInt k):=by
 intro H enc fuel _ cs y h
 cases fuel with
 | zero=>simp[DataW.trod] at h
 | succ n=>
  unfold DataW.trod at h
  rw[ht] at h
  split at h <;> simp_all
  obtain⟨⟨h1,h2⟩,_⟩:=h
  subst h1
  exact⟨[.int _ _],⟨_,[],rfl,rfl,rfl,rfl⟩,_,rfl,h2⟩
theorem opV_bool{P:Program}{w:World}{n:Nat}{t:TypeId}(ht:P.underlying t=some .bool):OpV P w n t GBool:=by
 intro H enc fuel _ cs y h
 cases fuel with
 | zero=>simp[DataW.trod] at h
 | succ n=>
  unfold DataW.trod at h
  rw[ht] at h
  split at h <;> simp_all
  rename_i b
  cases b
  ·exact⟨[.bool false],⟨_,[],rfl,rfl,rfl,rfl⟩,_,rfl⟩
  ·exact⟨[.bool true],⟨_,[],rfl,rfl,rfl,rfl⟩,_,rfl⟩
theorem opV_slice{P:Program}{w:World}{n:Nat}{t e:TypeId}{G:List V→Prop}(ht:P.underlying t=some (.slice e))(hk0:0 < P.cellsOf e)(he:OpV P w n e G):OpV P w (n+1) t (GSl G):=by
 intro H enc fuel hf cs y h
 rcases DataW.trod_slice ht h with⟨h0,_⟩ | ⟨a,len,cap,elems,rest,m,hfm,rfl,rfl,hb,hl,hm,hlen,hel,hsp,hns⟩
 ·subst h0
  exact⟨[.sl []],⟨_,[],rfl,rfl,⟨none,0,rfl,Nat.le_refl _,fun h=>absurd rfl h⟩,rfl⟩,[],rfl,fun c hc=>by cases hc⟩
 ·have each:∀j:Fin len,∃(l:List V) (ws:List Value),RepL w (Lall w) l ws∧G l∧ws.length=P.cellsOf e∧∀i u,ws[i]? =some u→w.cell? (a.add (j*P.cellsOf e+i))=some u:=fun j=>by
   have h1:=hel j j.2
   rw[List.getElem?_eq_getElem (by omega),Option.bind_eq_some_iff] at h1
   obtain⟨cs,hc,hd⟩:=h1
   obtain⟨l,hx,hg⟩:=he H enc m (by omega) cs _ hd
   obtain⟨_,hcl,hcell⟩:=cells_get hc
   exact⟨l,cs,hx,hg,hcl,fun i u hu=>by rw[←add_add];exact hcell i u hu⟩
  have hw1:∀(h:0 < len),∃u,w.cell? a=some u:=fun h=>by
   obtain⟨ws,h1,h2,h3,h4⟩:=(each ⟨0,h⟩).choose_spec
   exact⟨_,by simpa [Addr.add] using h4 0 (ws[0]'(by omega)) (List.getElem?_eq_getElem _)⟩
  have hsp:∀(h:0 < len),a=⟨a.block,a.off,none⟩:=fun h=>by
   obtain⟨u,hu⟩:=hw1 h
   obtain⟨b,o,sp⟩:=a
   cases sp with
   | none=>rfl
   | some s=>
    unfold World.cell? at hu
    split at hu <;> simp at hu
  refine⟨[.sl (List.ofFn fun j=>(each j).choose)],⟨_,[],rfl,rfl,⟨some a,cap,by rw[List.length_ofFn],by rw[List.length_ofFn];exact hl,fun hne=>?_⟩,rfl⟩,_,rfl,fun c hc=>?_⟩
  ·have hpos:0 < len:=by
    rcases Nat.eq_zero_or_pos len with h | h
    ·subst h;simp at hne
    ·exact h
   refine⟨a.block,a.off,P.cellsOf e,congrArg some (hsp hpos),RepE.of_get _ _ fun j c hj=>?_⟩
   rw[List.getElem?_ofFn] at hj
   split at hj
   ·cases hj
    rename_i hjl
    obtain⟨ws,h1,h2,h3,h4⟩:=(each ⟨j,hjl⟩).choose_spec
    refine⟨by rw[←h1.length];exact h3,RepC.of_get _ _ fun i x hx=>?_⟩
    obtain⟨u,hu,ho,hr⟩:=h1.get hx
    have hcell:=h4 i u hu
    rw[hsp hpos,add_plain'] at hcell
    rw[←Nat.add_assoc] at hcell
    exact⟨u,⟨u,hcell⟩,hcell,ho,hr⟩
   ·cases hj
  ·obtain⟨j,rfl⟩:=List.mem_ofFn.1 hc
   obtain⟨ws,h1,h2,h3,h4⟩:=(each j).choose_spec
   exact h2
def Cats:List (List V→Prop)→List V→Prop
 | [],l=>l=[]
 | G::Gs,l=>∃a b,l=a++b∧G a∧Cats Gs b
def Flds(P:Program)(w:World)(n:Nat):Nat→List Field→List (List V→Prop)→Prop
 | _,[],[]=>True
 | o,f::fs,G::Gs=>f.offset=o∧OpV P w n f.type G∧Flds P w n (o+P.cellsOf f.type) fs Gs
 | _,_,_=>False
def total(P:Program):List Field→Nat
 | []=>0
 | f::fs=>P.cellsOf f.type+total P fs
theorem flds_rep{P:Program}{w:World}{n:Nat}{H:Type}{enc:TypeId×Value→H}{cs:List Value}:∀(fs:List Field) (Gs:List (List V→Prop)) (o:Nat),Flds P w n o fs Gs→(∀f∈fs,∃m y,m≤n∧DataW.trod enc P w 0 (fun _=>true) true m f.type ((cs.drop f.offset).take (P.cellsOf f.type))=some y)→cs.length=o+total P fs→∃l,RepL w (Lall w) l (cs.drop o)∧Cats Gs l
 | [],[],o,_,_,hl=>⟨[],by rw[total] at hl;rw[List.drop_of_length_le (by omega)];rfl,rfl⟩
 | [],_::_,_,h,_,_=>h.elim
 | _::_,[],_,h,_,_=>h.elim
 | f::fs,G::Gs,o,⟨ho,hG,hr⟩,ht,hl=>by
  obtain⟨m,y,hm,hy⟩:=ht f List.mem_cons_self
  obtain⟨a,ra,ga⟩:=hG H enc m hm _ _ hy
  rw[total] at hl
  obtain⟨b,rb,gb⟩:=flds_rep fs Gs (o+P.cellsOf f.type) hr (fun f' hf'=>ht f' (List.mem_cons_of_mem _ hf')) (by omega)
  refine⟨a++b,?_,a,b,rfl,ga,gb⟩
  rw[ho] at ra
  have:=ra.append rb
  rwa [show List.drop (o+P.cellsOf f.type) cs=(cs.drop o).drop (P.cellsOf f.type) by rw[List.drop_drop],List.take_append_drop] at this
theorem opV_struct{P:Program}{w:World}{n:Nat}{t:TypeId}{fs:Array Field}{Gs:List (List V→Prop)}(ht:P.underlying t=some (.struct fs))(hc:P.cellsOf t=total P fs.toList)(hf:Flds P w n 0 fs.toList Gs):OpV P w (n+1) t (Cats Gs):=by
 intro H enc fuel hfu cs y h
 obtain⟨xs,m,hm,_,hl,hx,hg⟩:=DataW.trod_struct ht h
 have:=flds_rep (P:=P) (w:=w) (n:=n) (enc:=enc) (cs:=cs) fs.toList Gs 0 hf (fun f hf=>by
  obtain⟨i,hi,rfl⟩:=List.mem_iff_getElem.1 hf
  have h1:=hg i fs.toList[i] (by rw[←Array.getElem?_toList,List.getElem?_eq_getElem hi])
  have hi':i < xs.length:=by rw[hx];simpa using hi
  rw[List.getElem?_eq_getElem hi'] at h1
  exact⟨m,_,by omega,h1⟩) (by rw[hl,hc,Nat.zero_add])
 simpa using this
theorem opV_arg{P:Program}{w:World}{t:TypeId}{G:List V→Prop}(h:∀n,OpV P w n t G){H:Type}{enc:TypeId×Value→H}{v:Value}{d:DataW H}{ps:List MemPlace}(ht:DataW.Trod enc P w 0 (fun _=>true) true t v d ps):∃l,RepL w (Lall w) l v.cells.toList∧G l:=by
 obtain⟨fuel,hf⟩:=ht
 exact h fuel H enc fuel (Nat.le_refl _) _ _ hf
end Go.Proofs.YtknelogmocedeaaGreatDoor
namespace Go.Proofs.YtknelogmocedeaaGreatDoor.Tl
open Go.RowKit
set_option linter.unusedVariables false
end Go.Proofs.YtknelogmocedeaaGreatDoor.Tl
