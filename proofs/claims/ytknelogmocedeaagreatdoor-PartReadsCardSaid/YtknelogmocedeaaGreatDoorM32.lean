/- Several texts, one behind the other. The statement PartBack of latinerlaw10, walked. The statement PartReads of latinerlaw10, walked. Cards: what reads of a type is a value that stands in memory as the walks without memory tell it; structs and slices however deep, types that hold themselves. Whatever program. tlv, cards: what reads of a tree's type is a tree. part, cards: what reads of the types of parts, and of lists of trees, is one. -/
import Derived.Test.YtknelogmocedeaaGreatDoorM31
import Derived.Test.YtknelogmocedeaaGreatDoorM11
import Derived.ChangeArms
import Derived.Test.YtknelogmocedeaaGreatDoorM25
import Derived.Test.YtknelogmocedeaaGreatDoorM29
namespace Go.Proofs.YtknelogmocedeaaGreatDoor.Pa
open Go.RowKit Go.Shelf Go.Lib Tl Pr
open Fl (bl bt' bl_bt bl_of size_bl)
open Fi (one_arg encS all_take_succ all_bad)
set_option linter.unusedVariables false
variable (p : Nat → Addr)
theorem nd0_mid:midN nd0:=⟨by decide,trivial⟩
theorem nd0_lim:limN nd0:=⟨by decide,by decide,trivial⟩
theorem ctlN_lim{c:Ctl}(h:ctlB c=true):limN (ctlN c):=by
 unfold ctlB oidB Dn.typeB at h
 simp only[Bool.and_eq_true,decide_eq_true_eq,size_bl] at h
 have h1:c.oid.size≤100000000:=by have:=h.1.1.1;omega
 have h2:c.val.size≤100000000:=by have:=h.2.1;omega
 unfold ctlN
 cases c.crit <;> cases c.has
 ·exact⟨by decide,by simp,⟨h1,by decide,trivial⟩,trivial⟩
 ·exact⟨by decide,by simp,⟨h1,by decide,trivial⟩,⟨h2,by decide,trivial⟩,trivial⟩
 ·exact⟨by decide,by simp,⟨h1,by decide,trivial⟩,⟨by decide,by decide,trivial⟩,trivial⟩
 ·exact⟨by decide,by simp,⟨h1,by decide,trivial⟩,⟨by decide,by decide,trivial⟩,⟨h2,by decide,trivial⟩,trivial⟩
theorem int_size(n:Int):(intB n).size≤4:=by
 unfold intB
 split
 ·rename_i w hw
  have:=Pr.least_some hw
  rw[←size_bl,bl_of,intL_len]
  omega
 ·decide
theorem chgN_lim{c:Chg}(h:chgB c=true):limN (chgN c):=⟨by decide,by simp,⟨by have:=int_size c.kind;omega,by decide,trivial⟩,attN_lim (chg_kind h).2,trivial⟩
theorem resN_lim{r:Res}(h:resB r=true):((resN r).length≤100000000∧kidLes 100000000 (resN r))∧shortT (resN r):=by
 have hr:=h
 unfold resB refsB dnB allSz at h
 simp only[Bool.and_eq_true,decide_eq_true_eq,List.all_eq_true] at h
 obtain⟨_,_,⟨_,h1⟩,_,h2,⟨_,h3,h4⟩,_⟩:=h
 have hi:=int_size r.code
 have hk:∀l:List ByteArray,(∀x∈l,x.size≤60)→kidLes 100000000 (l.map (leafN 4)):=by
  intro l
  induction l with
  | nil=>intro _;trivial
  | cons x q ih=>intro h;exact⟨⟨by have:=h x (by simp);omega,by decide,trivial⟩,ih fun y hy=>h y (by simp[hy])⟩
 refine⟨⟨by have:=resN_len r;omega,?_⟩,?_⟩
 ·unfold resN
  split
  ·exact⟨⟨by omega,by decide,trivial⟩,⟨by omega,by decide,trivial⟩,⟨by omega,by decide,trivial⟩,⟨by decide,by rw[List.length_map];omega,hk _ h4⟩,trivial⟩
  ·exact⟨⟨by omega,by decide,trivial⟩,⟨by omega,by decide,trivial⟩,⟨by omega,by decide,trivial⟩,trivial⟩
 ·intro x hx
  have key:x∈[numN r.code,leafN 4 r.dn,leafN 4 r.text]∨x=leavesN 163 r.refs:=by
   unfold resN at hx
   rcases List.mem_append.1 hx with hx | hx
   ·exact .inl hx
   ·split at hx
    ·exact .inr (List.mem_singleton.1 hx)
    ·cases hx
  rcases key with hx | rfl
  ·simp only[List.mem_cons,List.not_mem_nil,or_false] at hx
   rcases hx with rfl | rfl | rfl
   ·show(intB r.code).size≤_;omega
   ·show r.dn.size≤_;omega
   ·show r.text.size≤_;omega
  ·exact(by decide:(bt' []).size≤1000000)
theorem sameA_refl(a:Att):sameA a a=true:=by unfold sameA;simp
theorem sameR_refl(a:Res):sameR a a=true:=by unfold sameR;simp
set_option maxHeartbeats 8000000 in
theorem back_law(c0:Ctl)(x0:Att)(y0:Chg)(z0:Res):Fn Tryz.prog (envX p) 6 [.v (.agg (cCtl c0)),.v (.agg (cAtt x0)),.v (.agg (cChg y0)),.v (.agg (cRes z0))] (.v (.bool true)):=by
 have hc:=CutC_fn (X:=envX p) c0
 have hx:=CutA_fn (X:=envX p) x0
 have hy:=CutH_fn (X:=envX p) y0
 have hz:=CutR_fn (X:=envX p) z0
 have mx:=CutA_mid x0
 have my:midA (CutH y0).att:=CutA_mid y0.att
 have mz:=CutR_mid z0
 generalize CutC c0=c at*
 generalize CutA x0=x at*
 generalize CutH y0=y at*
 generalize CutR z0=z at*
 obtain⟨n1,e1,c1,f1,C1,C2,C3⟩:∃(n:Nd) (e:Int) (c':Ctl) (f:Int),Fn Tryz.prog (envX p) 21 [.v (.agg (cCtl c))] (.tup [.v (.agg (cM n)),.v (.int .i64 e)])∧Fn Tryz.prog (envX p) 22 [.v (.agg (cM n))] (.tup [.v (.agg (cCtl c')),.v (.int .i64 f)])∧(e=0→f=0∧c'=c):=by
  have h1:=Control_fn p c
  unfold CtlT at h1
  cases hB:ctlB c
  ·rw[hB,if_neg (by decide)] at h1
   exact⟨nd0,100,ctl0,100,h1,ReadControl_fn p nd0 nd0_mid,fun h=>by cases h⟩
  ·rw[hB,if_pos rfl] at h1
   have h2:=ReadControl_fn p (ctlN c) (limN_mid (ctlN_lim hB))
   rw[read_ctl hB] at h2
   exact⟨_,0,c,0,h1,h2,fun _=>⟨rfl,rfl⟩⟩
 obtain⟨n2,e2,c2,f2,A1,A2,A3⟩:∃(n:Nd) (e:Int) (c':Att) (f:Int),Fn Tryz.prog (envX p) 13 [.v (.agg (cAtt x)),.v (.int .i64 0)] (.tup [.v (.agg (cM n)),.v (.int .i64 e)])∧Fn Tryz.prog (envX p) 25 [.v (.agg (cM n)),.v (.int .i64 0)] (.tup [.v (.agg (cAtt c')),.v (.int .i64 f)])∧(e=0→f=0∧Fn Tryz.prog (envX p) 30 [.v (.agg (cAtt c')),.v (.agg (cAtt x))] (.v (.bool true))):=by
  have h1:=Attr_fn p x 0 mx
  unfold AttT at h1
  cases hB:attB x 0
  ·rw[hB,if_neg (by decide)] at h1
   exact⟨nd0,100,att0,100,h1,ReadAttr_fn p nd0 nd0_lim 0,fun h=>by cases h⟩
  ·rw[hB,if_pos rfl] at h1
   have h2:=ReadAttr_fn p (attN x) (attN_lim hB) 0
   rw[read_att hB] at h2
   have h3:=sameAttr_fn (X:=envX p) x x (by have:=mx.2;omega)
   rw[sameA_refl] at h3
   exact⟨_,0,x,0,h1,h2,fun _=>⟨rfl,h3⟩⟩
 obtain⟨n3,e3,c3,f3,B1,B2,B3⟩:∃(n:Nd) (e:Int) (c':Chg) (f:Int),Fn Tryz.prog (envX p) 26 [.v (.agg (cChg y))] (.tup [.v (.agg (cM n)),.v (.int .i64 e)])∧Fn Tryz.prog (envX p) 27 [.v (.agg (cM n))] (.tup [.v (.agg (cChg c')),.v (.int .i64 f)])∧(e=0→f=0∧c'.kind=y.kind∧Fn Tryz.prog (envX p) 30 [.v (.agg (cAtt c'.att)),.v (.agg (cAtt y.att))] (.v (.bool true))):=by
  have h1:=Change_fn p y my
  unfold ChgT at h1
  cases hB:chgB y
  ·rw[hB,if_neg (by decide)] at h1
   exact⟨nd0,100,chg0,100,h1,ReadChange_fn p nd0 nd0_lim,fun h=>by cases h⟩
  ·rw[hB,if_pos rfl] at h1
   have h2:=ReadChange_fn p (chgN y) (chgN_lim hB)
   rw[read_chg hB] at h2
   have h3:=sameAttr_fn (X:=envX p) y.att y.att (by have:=my.2;omega)
   rw[sameA_refl] at h3
   exact⟨_,0,y,0,h1,h2,fun _=>⟨rfl,rfl,h3⟩⟩
 obtain⟨n4,e4,c4,f4,R1,R2,R3⟩:∃(l:List Nd) (e:Int) (c':Res) (f:Int),Fn Tryz.prog (envX p) 28 [.v (.agg (cRes z))] (.tup [.v (.sl (l.map cM)),.v (.int .i64 e)])∧Fn Tryz.prog (envX p) 29 [.v (.sl (l.map cM))] (.tup [.v (.agg (cRes c')),.v (.int .i64 f)])∧(e=0→f=0∧Fn Tryz.prog (envX p) 31 [.v (.agg (cRes c')),.v (.agg (cRes z))] (.v (.bool true))):=by
  have hmap:∀m:List Nd,m.map cM=m.map cN:=fun m=>List.map_congr_left fun x _=>(cM_eq x).symm
  have h1:=Result_fn p z mz
  unfold ResT at h1
  cases hB:resB z
  ·rw[hB,if_neg (by decide)] at h1
   exact⟨[],100,res0,100,h1,ReadResult_fn p [] ⟨by decide,trivial⟩ (fun x hx=>by cases hx),fun h=>by cases h⟩
  ·rw[hB,if_pos rfl] at h1
   have h2:=ReadResult_fn p (resN z) (resN_lim hB).1 (resN_lim hB).2
   rw[read_res hB,←hmap] at h2
   have h3:=sameResult_fn (X:=envX p) z z (by have:=mz.refs.1;omega)
   rw[sameR_refl] at h3
   exact⟨_,0,z,0,h1,h2,fun _=>⟨rfl,h3⟩⟩
 refine fn_prog tabOk mixed Tryz.f6 Tryz.func6 (by kernel_rfl) (by kernel_rfl) ?_
 conv=>whnf
 (refine st_call (shown_fn p) ?_ rfl rfl ?_;(focus ((repeat' first|exact trivial|exact rfl|exact .inl rfl|exact .inr ⟨rfl,rfl⟩|refine And.intro ?_ ?_);done));conv=>whnf)
 (refine st_call hc ?_ rfl rfl ?_;(focus ((repeat' first|exact trivial|exact rfl|exact .inl rfl|exact .inr ⟨rfl,rfl⟩|refine And.intro ?_ ?_);done));conv=>whnf)
 (refine st_call hx ?_ rfl rfl ?_;(focus ((repeat' first|exact trivial|exact rfl|exact .inl rfl|exact .inr ⟨rfl,rfl⟩|refine And.intro ?_ ?_);done));conv=>whnf)
 (refine st_call hy ?_ rfl rfl ?_;(focus ((repeat' first|exact trivial|exact rfl|exact .inl rfl|exact .inr ⟨rfl,rfl⟩|refine And.intro ?_ ?_);done));conv=>whnf)
 (refine st_call hz ?_ rfl rfl ?_;(focus ((repeat' first|exact trivial|exact rfl|exact .inl rfl|exact .inr ⟨rfl,rfl⟩|refine And.intro ?_ ?_);done));conv=>whnf)
 (refine st_call C1 ?_ rfl rfl ?_;(focus ((repeat' first|exact trivial|exact rfl|exact .inl rfl|exact .inr ⟨rfl,rfl⟩|refine And.intro ?_ ?_);done));conv=>whnf)
 (refine st_call C2 ?_ rfl rfl ?_;(focus ((repeat' first|exact trivial|exact rfl|exact .inl rfl|exact .inr ⟨rfl,rfl⟩|refine And.intro ?_ ?_);done));conv=>whnf)
 (refine st_call A1 ?_ rfl rfl ?_;(focus ((repeat' first|exact trivial|exact rfl|exact .inl rfl|exact .inr ⟨rfl,rfl⟩|refine And.intro ?_ ?_);done));conv=>whnf)
 (refine st_call A2 ?_ rfl rfl ?_;(focus ((repeat' first|exact trivial|exact rfl|exact .inl rfl|exact .inr ⟨rfl,rfl⟩|refine And.intro ?_ ?_);done));conv=>whnf)
 (refine st_call B1 ?_ rfl rfl ?_;(focus ((repeat' first|exact trivial|exact rfl|exact .inl rfl|exact .inr ⟨rfl,rfl⟩|refine And.intro ?_ ?_);done));conv=>whnf)
 (refine st_call B2 ?_ rfl rfl ?_;(focus ((repeat' first|exact trivial|exact rfl|exact .inl rfl|exact .inr ⟨rfl,rfl⟩|refine And.intro ?_ ?_);done));conv=>whnf)
 (refine st_call R1 ?_ rfl rfl ?_;(focus ((repeat' first|exact trivial|exact rfl|exact .inl rfl|exact .inr ⟨rfl,rfl⟩|refine And.intro ?_ ?_);done));conv=>whnf)
 (refine st_call R2 ?_ rfl rfl ?_;(focus ((repeat' first|exact trivial|exact rfl|exact .inl rfl|exact .inr ⟨rfl,rfl⟩|refine And.intro ?_ ?_);done));conv=>whnf)
 refine⟨rfl,cmp_split (fun h1=>?_) (fun h1=>?_)⟩ <;> (conv=>whnf)
 rotate_left
 obtain⟨e,d⟩:=C3 (Decidable.not_not.1 h1)
 refine⟨rfl,cmp_true e ?_⟩
 conv=>whnf
 refine cmp_true (congrArg cCtl d) ?_
 conv=>whnf
 all_goals
  refine⟨rfl,cmp_split (fun h2=>?_) (fun h2=>?_)⟩ <;> (conv=>whnf)
  rotate_left
  obtain⟨e,d⟩:=A3 (Decidable.not_not.1 h2)
  refine⟨rfl,cmp_true e ?_⟩
  conv=>whnf
  (refine st_call d ?_ rfl rfl ?_;(focus ((repeat' first|exact trivial|exact rfl|exact .inl rfl|exact .inr ⟨rfl,rfl⟩|refine And.intro ?_ ?_);done));conv=>whnf)
  all_goals
   refine⟨rfl,cmp_split (fun h3=>?_) (fun h3=>?_)⟩ <;> (conv=>whnf)
   rotate_left
   obtain⟨e,d0,d⟩:=B3 (Decidable.not_not.1 h3)
   refine⟨rfl,cmp_true e ?_⟩
   conv=>whnf
   refine⟨rfl,cmp_true d0 ?_⟩
   conv=>whnf
   (refine st_call d ?_ rfl rfl ?_;(focus ((repeat' first|exact trivial|exact rfl|exact .inl rfl|exact .inr ⟨rfl,rfl⟩|refine And.intro ?_ ?_);done));conv=>whnf)
   all_goals
    refine⟨rfl,cmp_split (fun h4=>?_) (fun h4=>?_)⟩ <;> (conv=>whnf)
    rotate_left
    obtain⟨e,d⟩:=R3 (Decidable.not_not.1 h4)
    refine⟨rfl,cmp_true e ?_⟩
    conv=>whnf
    (refine st_call d ?_ rfl rfl ?_;(focus ((repeat' first|exact trivial|exact rfl|exact .inl rfl|exact .inr ⟨rfl,rfl⟩|refine And.intro ?_ ?_);done));conv=>whnf)
    all_goals (focus ((repeat' first|exact trivial|exact rfl|exact .inl rfl|exact .inr ⟨rfl,rfl⟩|refine And.intro ?_ ?_);done))
end Go.Proofs.YtknelogmocedeaaGreatDoor.Pa
namespace Go.Proofs.YtknelogmocedeaaGreatDoor.Pa
open Go.RowKit Go.Shelf Go.Lib Tl Pr
open Fl (bl bt' bl_bt bl_of size_bl)
open Fi (one_arg encS all_take_succ all_bad)
set_option linter.unusedVariables false
variable (p : Nat → Addr)
theorem attB_mid{a:Att}{least:Int}(h:attB a least=true):midA a:=by
 unfold attB Fl.nameB at h
 simp only[Bool.and_eq_true,decide_eq_true_eq,size_bl] at h
 exact⟨by have:=h.2.1.1;omega,by have:=h.2.2.2.1;omega⟩
theorem resB_mid{r:Res}(h:resB r=true):midR r:=by
 unfold resB refsB dnB allSz at h
 simp only[Bool.and_eq_true,decide_eq_true_eq,List.all_eq_true] at h
 obtain⟨_,_,⟨_,h1⟩,_,h2,⟨_,h3,h4⟩,_⟩:=h
 exact⟨by omega,by omega,by omega,fun s hs=>by have:=h4 s hs;omega⟩
set_option maxHeartbeats 8000000 in
theorem reads_law(n0:Nd)(l0:List Nd):Fn Tryz.prog (envX p) 7 [.v (.agg (cM n0)),.v (.sl (l0.map cN))] (.v (.bool true)):=by
 have hn:=CutT_fn (X:=envX p) n0
 have hl:=cutAll_fn (X:=envX p) l0
 have mn:=CutT_lim n0
 have ml:=cutAll_lim l0
 generalize CutT n0=n at*
 generalize cutAllT l0=l at*
 have hmap:∀m:List Nd,m.map cM=m.map cN:=fun m=>List.map_congr_left fun x _=>(cM_eq x).symm
 obtain⟨c1,e1,n1,f1,C1,C2,C3⟩:∃(c:Ctl) (e:Int) (b:Nd) (f:Int),Fn Tryz.prog (envX p) 22 [.v (.agg (cM n))] (.tup [.v (.agg (cCtl c)),.v (.int .i64 e)])∧Fn Tryz.prog (envX p) 21 [.v (.agg (cCtl c))] (.tup [.v (.agg (cM b)),.v (.int .i64 f)])∧((e=100∧c=ctl0)∨(e=0∧f=0∧Fn Tryz.prog (envX p) 14 [.v (.agg (cM b)),.v (.agg (cM n))] (.v (.bool (sameN b n)))∧(sameN b n=true∨sameN b n=false∧c.crit=true∧b.kids.length=n.kids.length))):=by
  have h1:=ReadControl_fn p n (limN_mid mn)
  cases hr:readC n with
  | none=>
   rw[hr] at h1
   have h2:=Control_fn p ctl0
   unfold CtlT at h2
   rw[show ctlB ctl0=false from by decide,if_neg (by decide)] at h2
   exact⟨ctl0,100,nd0,100,h1,h2,.inl ⟨rfl,rfl⟩⟩
  | some c=>
   rw[hr] at h1
   obtain⟨hB,h3⟩:=readC_some hr
   have h2:=Control_fn p c
   unfold CtlT at h2
   rw[if_pos hB] at h2
   refine⟨c,0,ctlN c,0,h1,h2,.inr ⟨rfl,rfl,Tl.same_fn _ _ (limN_mid (ctlN_lim hB)) (limN_mid mn),?_⟩⟩
   rcases h3 with h3 | h3
   ·exact .inl ((sameN_iff _ _).2 h3)
   ·cases hq:sameN (ctlN c) n
    ·exact .inr ⟨rfl,h3⟩
    ·exact .inl rfl
 obtain⟨c2,e2,n2,f2,A1,A2,A3⟩:∃(c:Att) (e:Int) (b:Nd) (f:Int),Fn Tryz.prog (envX p) 25 [.v (.agg (cM n)),.v (.int .i64 0)] (.tup [.v (.agg (cAtt c)),.v (.int .i64 e)])∧Fn Tryz.prog (envX p) 13 [.v (.agg (cAtt c)),.v (.int .i64 0)] (.tup [.v (.agg (cM b)),.v (.int .i64 f)])∧((e≠0∧c=att0)∨(e=0∧f=0∧Fn Tryz.prog (envX p) 14 [.v (.agg (cM b)),.v (.agg (cM n))] (.v (.bool true)))):=by
  have h1:=ReadAttr_fn p n mn 0
  cases hr:readA n 0 with
  | none=>
   rw[hr] at h1
   have h2:=Attr_fn p att0 0 ⟨by decide,by decide⟩
   unfold AttT at h2
   rw[show attB att0 0=false from by decide,if_neg (by decide)] at h2
   exact⟨att0,100,nd0,100,h1,h2,.inl ⟨by decide,rfl⟩⟩
  | some c=>
   rw[hr] at h1
   obtain⟨hB,h3⟩:=readA_some hr
   have h2:=Attr_fn p c 0 (attB_mid hB)
   unfold AttT at h2
   rw[if_pos hB] at h2
   have h4:=Tl.same_fn (X:=envX p) (attN c) n (limN_mid (attN_lim hB)) (limN_mid mn)
   rw[(sameN_iff _ _).2 h3] at h4
   exact⟨c,0,attN c,0,h1,h2,.inr ⟨rfl,rfl,h4⟩⟩
 obtain⟨c3,e3,n3,f3,B1,B2,B3⟩:∃(c:Chg) (e:Int) (b:Nd) (f:Int),Fn Tryz.prog (envX p) 27 [.v (.agg (cM n))] (.tup [.v (.agg (cChg c)),.v (.int .i64 e)])∧Fn Tryz.prog (envX p) 26 [.v (.agg (cChg c))] (.tup [.v (.agg (cM b)),.v (.int .i64 f)])∧((e≠0∧c=chg0)∨(e=0∧f=0∧Fn Tryz.prog (envX p) 14 [.v (.agg (cM b)),.v (.agg (cM n))] (.v (.bool true)))):=by
  have h1:=ReadChange_fn p n mn
  cases hr:readH n with
  | none=>
   rw[hr] at h1
   have h2:=Change_fn p chg0 ⟨by decide,by decide⟩
   unfold ChgT at h2
   rw[show chgB chg0=false from by decide,if_neg (by decide)] at h2
   exact⟨chg0,100,nd0,100,h1,h2,.inl ⟨by decide,rfl⟩⟩
  | some c=>
   rw[hr] at h1
   obtain⟨hB,h3⟩:=readH_some hr
   have h2:=Change_fn p c (attB_mid (chg_kind hB).2)
   unfold ChgT at h2
   rw[if_pos hB] at h2
   have h4:=Tl.same_fn (X:=envX p) (chgN c) n (limN_mid (chgN_lim hB)) (limN_mid mn)
   rw[(sameN_iff _ _).2 h3] at h4
   exact⟨c,0,chgN c,0,h1,h2,.inr ⟨rfl,rfl,h4⟩⟩
 obtain⟨c4,e4,n4,f4,R1,R2,R3⟩:∃(c:Res) (e:Int) (b:List Nd) (f:Int),Fn Tryz.prog (envX p) 29 [.v (.sl (l.map cN))] (.tup [.v (.agg (cRes c)),.v (.int .i64 e)])∧Fn Tryz.prog (envX p) 28 [.v (.agg (cRes c))] (.tup [.v (.sl (b.map cM)),.v (.int .i64 f)])∧((e≠0∧c=res0)∨(e=0∧f=0∧Fn Tryz.prog (envX p) 34 [.v (.sl (b.map cM)),.v (.sl (l.map cN))] (.v (.bool true)))):=by
  have h1:=ReadResult_fn p l ml.1 ml.2
  cases hr:readR l with
  | none=>
   rw[hr] at h1
   have h2:=Result_fn p res0 ⟨by decide,by decide,by decide,fun s hs=>by cases hs⟩
   refine⟨res0,100,if resB res0=true then resN res0 else [],if resB res0=true then 0 else 100,h1,?_,.inl ⟨by decide,rfl⟩⟩
   unfold ResT at h2
   split at h2
   ·rw[if_pos (by assumption),if_pos (by assumption)];exact h2
   ·rw[if_neg (by assumption),if_neg (by assumption)];exact h2
  | some c=>
   rw[hr] at h1
   obtain⟨hB,h3⟩:=readR_some hr
   have h2:=Result_fn p c (resB_mid hB)
   unfold ResT at h2
   rw[if_pos hB] at h2
   have h4:=trees_fn (X:=envX p) (resN c) l (by have:=resN_len c;omega) (resN_mid hB) (kidLes_mid (Nat.le_refl _) ml.1.2)
   rw[(sameNs_iff _ _).2 h3,←hmap] at h4
   exact⟨c,0,resN c,0,h1,h2,.inr ⟨rfl,rfl,h4⟩⟩
 refine fn_prog tabOk mixed Tryz.f7 Tryz.func7 (by kernel_rfl) (by kernel_rfl) ?_
 conv=>whnf
 (refine st_call (shown_fn p) ?_ rfl rfl ?_;(focus ((repeat' first|exact trivial|exact rfl|exact .inl rfl|exact .inr ⟨rfl,rfl⟩|refine And.intro ?_ ?_);done));conv=>whnf)
 (refine st_call hn ?_ rfl rfl ?_;(focus ((repeat' first|exact trivial|exact rfl|exact .inl rfl|exact .inr ⟨rfl,rfl⟩|refine And.intro ?_ ?_);done));conv=>whnf)
 (refine st_call hl ?_ rfl rfl ?_;(focus ((repeat' first|exact trivial|exact rfl|exact .inl rfl|exact .inr ⟨rfl,rfl⟩|refine And.intro ?_ ?_);done));conv=>whnf)
 (refine st_call C1 ?_ rfl rfl ?_;(focus ((repeat' first|exact trivial|exact rfl|exact .inl rfl|exact .inr ⟨rfl,rfl⟩|refine And.intro ?_ ?_);done));conv=>whnf)
 (refine st_call C2 ?_ rfl rfl ?_;(focus ((repeat' first|exact trivial|exact rfl|exact .inl rfl|exact .inr ⟨rfl,rfl⟩|refine And.intro ?_ ?_);done));conv=>whnf)
 (refine st_call A1 ?_ rfl rfl ?_;(focus ((repeat' first|exact trivial|exact rfl|exact .inl rfl|exact .inr ⟨rfl,rfl⟩|refine And.intro ?_ ?_);done));conv=>whnf)
 (refine st_call A2 ?_ rfl rfl ?_;(focus ((repeat' first|exact trivial|exact rfl|exact .inl rfl|exact .inr ⟨rfl,rfl⟩|refine And.intro ?_ ?_);done));conv=>whnf)
 (refine st_call B1 ?_ rfl rfl ?_;(focus ((repeat' first|exact trivial|exact rfl|exact .inl rfl|exact .inr ⟨rfl,rfl⟩|refine And.intro ?_ ?_);done));conv=>whnf)
 (refine st_call B2 ?_ rfl rfl ?_;(focus ((repeat' first|exact trivial|exact rfl|exact .inl rfl|exact .inr ⟨rfl,rfl⟩|refine And.intro ?_ ?_);done));conv=>whnf)
 (refine st_call R1 ?_ rfl rfl ?_;(focus ((repeat' first|exact trivial|exact rfl|exact .inl rfl|exact .inr ⟨rfl,rfl⟩|refine And.intro ?_ ?_);done));conv=>whnf)
 (refine st_call R2 ?_ rfl rfl ?_;(focus ((repeat' first|exact trivial|exact rfl|exact .inl rfl|exact .inr ⟨rfl,rfl⟩|refine And.intro ?_ ?_);done));conv=>whnf)
 clear C1 C2 A1 A2 B1 B2 R1 R2 hn hl
 rcases C3 with⟨e,d⟩ | ⟨e,f,hs,h | ⟨h,d,g⟩⟩
 subst e
 refine⟨rfl,cmp_true (by decide) ?_⟩
 conv=>whnf
 refine cmp_true (congrArg cCtl d) ?_
 conv=>whnf
 rotate_left
 rw[h] at hs
 refine⟨rfl,cmp_false (fun h=>h e) ?_⟩
 conv=>whnf
 refine⟨rfl,cmp_true e ?_⟩
 conv=>whnf
 refine⟨rfl,cmp_true f ?_⟩
 conv=>whnf
 (refine st_call hs ?_ rfl rfl ?_;(focus ((repeat' first|exact trivial|exact rfl|exact .inl rfl|exact .inr ⟨rfl,rfl⟩|refine And.intro ?_ ?_);done));conv=>whnf)
 rotate_left
 rw[h] at hs
 refine⟨rfl,cmp_false (fun h=>h e) ?_⟩
 conv=>whnf
 refine⟨rfl,cmp_true e ?_⟩
 conv=>whnf
 refine⟨rfl,cmp_true f ?_⟩
 conv=>whnf
 (refine st_call hs ?_ rfl rfl ?_;(focus ((repeat' first|exact trivial|exact rfl|exact .inl rfl|exact .inr ⟨rfl,rfl⟩|refine And.intro ?_ ?_);done));conv=>whnf)
 rw[d]
 conv=>whnf
 refine⟨rfl,cmp_true (by rw[List.length_map,List.length_map,g]) ?_⟩
 conv=>whnf
 all_goals
  rcases A3 with⟨e,d⟩ | ⟨e,f,d⟩
  refine⟨rfl,cmp_true e ?_⟩
  conv=>whnf
  refine cmp_true (congrArg Att.name d) ?_
  conv=>whnf
  rotate_left
  refine⟨rfl,cmp_false (fun h=>h e) ?_⟩
  conv=>whnf
  refine⟨rfl,cmp_true e ?_⟩
  conv=>whnf
  refine⟨rfl,cmp_true f ?_⟩
  conv=>whnf
  (refine st_call d ?_ rfl rfl ?_;(focus ((repeat' first|exact trivial|exact rfl|exact .inl rfl|exact .inr ⟨rfl,rfl⟩|refine And.intro ?_ ?_);done));conv=>whnf)
  all_goals
   rcases B3 with⟨e,d⟩ | ⟨e,f,d⟩
   refine⟨rfl,cmp_true e ?_⟩
   conv=>whnf
   refine cmp_true (congrArg (fun c=>c.att.name) d) ?_
   conv=>whnf
   rotate_left
   refine⟨rfl,cmp_false (fun h=>h e) ?_⟩
   conv=>whnf
   refine⟨rfl,cmp_true e ?_⟩
   conv=>whnf
   refine⟨rfl,cmp_true f ?_⟩
   conv=>whnf
   (refine st_call d ?_ rfl rfl ?_;(focus ((repeat' first|exact trivial|exact rfl|exact .inl rfl|exact .inr ⟨rfl,rfl⟩|refine And.intro ?_ ?_);done));conv=>whnf)
   all_goals
    rcases R3 with⟨e,d⟩ | ⟨e,f,d⟩
    refine⟨rfl,cmp_true e ?_⟩
    conv=>whnf
    refine cmp_true (congrArg Res.dn d) ?_
    conv=>whnf
    refine⟨rfl,cmp_true (by rw[d];rfl) ?_⟩
    conv=>whnf
    rotate_left
    refine⟨rfl,cmp_false (fun h=>h e) ?_⟩
    conv=>whnf
    refine⟨rfl,cmp_true e ?_⟩
    conv=>whnf
    refine⟨rfl,cmp_true f ?_⟩
    conv=>whnf
    (refine st_call d ?_ rfl rfl ?_;(focus ((repeat' first|exact trivial|exact rfl|exact .inl rfl|exact .inr ⟨rfl,rfl⟩|refine And.intro ?_ ?_);done));conv=>whnf)
    all_goals (focus ((repeat' first|exact trivial|exact rfl|exact .inl rfl|exact .inr ⟨rfl,rfl⟩|refine And.intro ?_ ?_);done))
end Go.Proofs.YtknelogmocedeaaGreatDoor.Pa
namespace Go.Proofs.YtknelogmocedeaaGreatDoor
open Go.RowKit
set_option linter.unusedVariables false
def OpV(P:Program)(w:World)(n:Nat)(t:TypeId)(G:List V→Prop):Prop:=∀(H:Type) (enc:TypeId×Value→H) fuel,fuel≤n→∀cs y,DataW.trod enc P w 0 (fun _=>true) true fuel t cs=some y→∃l,RepL w (Lall w) l cs∧G l
theorem OpV.mono {P:Program}{w:World}{n m:Nat}{t:TypeId}{G:List V→Prop}(h:OpV P w n t G)(hm:m≤n):OpV P w m t G:=fun H enc fuel hf cs y hd=>h H enc fuel (Nat.le_trans hf hm) cs y hd
theorem OpV.imp {P:Program}{w:World}{n:Nat}{t:TypeId}{G G':List V→Prop}(h:OpV P w n t G)(hi:∀l,G l→G' l):OpV P w n t G':=fun H enc fuel hf cs y hd=>let ⟨l,h1,h2⟩:=h H enc fuel hf cs y hd;⟨l,h1,hi l h2⟩
def GStr:List V→Prop:=fun l=>∃s:ByteArray,l=[.str s]
def GInt(k:IntKind):List V→Prop:=fun l=>∃n:Int,l=[.int k n]∧(Lit.int k n).wf=true
def GBool:List V→Prop:=fun l=>∃b:Bool,l=[.bool b]
def GSl(G:List V→Prop):List V→Prop:=fun l=>∃xs:List (List V),l=[.sl xs]∧∀c∈xs,G c
theorem opV_str{P:Program}{w:World}{n:Nat}{t:TypeId}(ht:P.underlying t=some .string):OpV P w n t GStr:=by
 intro H enc fuel _ cs y h
 cases fuel with
 | zero=>simp[DataW.trod] at h
 | succ n=>
  unfold DataW.trod at h
  rw[ht] at h
  split at h <;> simp_all
  exact⟨[.str _],⟨_,[],rfl,rfl,rfl,rfl⟩,_,rfl⟩
theorem opV_int{P:Program}{w:World}{n:Nat}{t:TypeId}{k:IntKind}(ht:P.underlying t=some (.int k)):OpV P w n t (GInt k):=by
 intro H enc fuel _ cs y h
 cases fuel with
 | zero=>simp[DataW.trod] at h
 | succ n=>
  unfold DataW.trod at h
  rw[ht] at h
  split at h <;> simp_all
  obtain⟨⟨h1,h2⟩,_⟩:=h
  subst h1
  exact⟨[.int _ _],⟨_,[],rfl,rfl,rfl,rfl⟩,_,rfl,h2⟩
theorem opV_bool{P:Program}{w:World}{n:Nat}{t:TypeId}(ht:P.underlying t=some .bool):OpV P w n t GBool:=by
 intro H enc fuel _ cs y h
 cases fuel with
 | zero=>simp[DataW.trod] at h
 | succ n=>
  unfold DataW.trod at h
  rw[ht] at h
  split at h <;> simp_all
  rename_i b
  cases b
  ·exact⟨[.bool false],⟨_,[],rfl,rfl,rfl,rfl⟩,_,rfl⟩
  ·exact⟨[.bool true],⟨_,[],rfl,rfl,rfl,rfl⟩,_,rfl⟩
theorem opV_slice{P:Program}{w:World}{n:Nat}{t e:TypeId}{G:List V→Prop}(ht:P.underlying t=some (.slice e))(hk0:0 < P.cellsOf e)(he:OpV P w n e G):OpV P w (n+1) t (GSl G):=by
 intro H enc fuel hf cs y h
 rcases DataW.trod_slice ht h with⟨h0,_⟩ | ⟨a,len,cap,elems,rest,m,hfm,rfl,rfl,hb,hl,hm,hlen,hel,hsp,hns⟩
 ·subst h0
  exact⟨[.sl []],⟨_,[],rfl,rfl,⟨none,0,rfl,Nat.le_refl _,fun h=>absurd rfl h⟩,rfl⟩,[],rfl,fun c hc=>by cases hc⟩
 ·have each:∀j:Fin len,∃(l:List V) (ws:List Value),RepL w (Lall w) l ws∧G l∧ws.length=P.cellsOf e∧∀i u,ws[i]? =some u→w.cell? (a.add (j*P.cellsOf e+i))=some u:=fun j=>by
   have h1:=hel j j.2
   rw[List.getElem?_eq_getElem (by omega),Option.bind_eq_some_iff] at h1
   obtain⟨cs,hc,hd⟩:=h1
   obtain⟨l,hx,hg⟩:=he H enc m (by omega) cs _ hd
   obtain⟨_,hcl,hcell⟩:=cells_get hc
   exact⟨l,cs,hx,hg,hcl,fun i u hu=>by rw[←add_add];exact hcell i u hu⟩
  have hw1:∀(h:0 < len),∃u,w.cell? a=some u:=fun h=>by
   obtain⟨ws,h1,h2,h3,h4⟩:=(each ⟨0,h⟩).choose_spec
   exact⟨_,by simpa [Addr.add] using h4 0 (ws[0]'(by omega)) (List.getElem?_eq_getElem _)⟩
  have hsp:∀(h:0 < len),a=⟨a.block,a.off,none⟩:=fun h=>by
   obtain⟨u,hu⟩:=hw1 h
   obtain⟨b,o,sp⟩:=a
   cases sp with
   | none=>rfl
   | some s=>
    unfold World.cell? at hu
    split at hu <;> simp at hu
  refine⟨[.sl (List.ofFn fun j=>(each j).choose)],⟨_,[],rfl,rfl,⟨some a,cap,by rw[List.length_ofFn],by rw[List.length_ofFn];exact hl,fun hne=>?_⟩,rfl⟩,_,rfl,fun c hc=>?_⟩
  ·have hpos:0 < len:=by
    rcases Nat.eq_zero_or_pos len with h | h
    ·subst h;simp at hne
    ·exact h
   refine⟨a.block,a.off,P.cellsOf e,congrArg some (hsp hpos),RepE.of_get _ _ fun j c hj=>?_⟩
   rw[List.getElem?_ofFn] at hj
   split at hj
   ·cases hj
    rename_i hjl
    obtain⟨ws,h1,h2,h3,h4⟩:=(each ⟨j,hjl⟩).choose_spec
    refine⟨by rw[←h1.length];exact h3,RepC.of_get _ _ fun i x hx=>?_⟩
    obtain⟨u,hu,ho,hr⟩:=h1.get hx
    have hcell:=h4 i u hu
    rw[hsp hpos,add_plain'] at hcell
    rw[←Nat.add_assoc] at hcell
    exact⟨u,⟨u,hcell⟩,hcell,ho,hr⟩
   ·cases hj
  ·obtain⟨j,rfl⟩:=List.mem_ofFn.1 hc
   obtain⟨ws,h1,h2,h3,h4⟩:=(each j).choose_spec
   exact h2
def Cats:List (List V→Prop)→List V→Prop
 | [],l=>l=[]
 | G::Gs,l=>∃a b,l=a++b∧G a∧Cats Gs b
def Flds(P:Program)(w:World)(n:Nat):Nat→List Field→List (List V→Prop)→Prop
 | _,[],[]=>True
 | o,f::fs,G::Gs=>f.offset=o∧OpV P w n f.type G∧Flds P w n (o+P.cellsOf f.type) fs Gs
 | _,_,_=>False
def total(P:Program):List Field→Nat
 | []=>0
 | f::fs=>P.cellsOf f.type+total P fs
theorem flds_rep{P:Program}{w:World}{n:Nat}{H:Type}{enc:TypeId×Value→H}{cs:List Value}:∀(fs:List Field) (Gs:List (List V→Prop)) (o:Nat),Flds P w n o fs Gs→(∀f∈fs,∃m y,m≤n∧DataW.trod enc P w 0 (fun _=>true) true m f.type ((cs.drop f.offset).take (P.cellsOf f.type))=some y)→cs.length=o+total P fs→∃l,RepL w (Lall w) l (cs.drop o)∧Cats Gs l
 | [],[],o,_,_,hl=>⟨[],by rw[total] at hl;rw[List.drop_of_length_le (by omega)];rfl,rfl⟩
 | [],_::_,_,h,_,_=>h.elim
 | _::_,[],_,h,_,_=>h.elim
 | f::fs,G::Gs,o,⟨ho,hG,hr⟩,ht,hl=>by
  obtain⟨m,y,hm,hy⟩:=ht f List.mem_cons_self
  obtain⟨a,ra,ga⟩:=hG H enc m hm _ _ hy
  rw[total] at hl
  obtain⟨b,rb,gb⟩:=flds_rep fs Gs (o+P.cellsOf f.type) hr (fun f' hf'=>ht f' (List.mem_cons_of_mem _ hf')) (by omega)
  refine⟨a++b,?_,a,b,rfl,ga,gb⟩
  rw[ho] at ra
  have:=ra.append rb
  rwa [show List.drop (o+P.cellsOf f.type) cs=(cs.drop o).drop (P.cellsOf f.type) by rw[List.drop_drop],List.take_append_drop] at this
theorem opV_struct{P:Program}{w:World}{n:Nat}{t:TypeId}{fs:Array Field}{Gs:List (List V→Prop)}(ht:P.underlying t=some (.struct fs))(hc:P.cellsOf t=total P fs.toList)(hf:Flds P w n 0 fs.toList Gs):OpV P w (n+1) t (Cats Gs):=by
 intro H enc fuel hfu cs y h
 obtain⟨xs,m,hm,_,hl,hx,hg⟩:=DataW.trod_struct ht h
 have:=flds_rep (P:=P) (w:=w) (n:=n) (enc:=enc) (cs:=cs) fs.toList Gs 0 hf (fun f hf=>by
  obtain⟨i,hi,rfl⟩:=List.mem_iff_getElem.1 hf
  have h1:=hg i fs.toList[i] (by rw[←Array.getElem?_toList,List.getElem?_eq_getElem hi])
  have hi':i < xs.length:=by rw[hx];simpa using hi
  rw[List.getElem?_eq_getElem hi'] at h1
  exact⟨m,_,by omega,h1⟩) (by rw[hl,hc,Nat.zero_add])
 simpa using this
theorem opV_arg{P:Program}{w:World}{t:TypeId}{G:List V→Prop}(h:∀n,OpV P w n t G){H:Type}{enc:TypeId×Value→H}{v:Value}{d:DataW H}{ps:List MemPlace}(ht:DataW.Trod enc P w 0 (fun _=>true) true t v d ps):∃l,RepL w (Lall w) l v.cells.toList∧G l:=by
 obtain⟨fuel,hf⟩:=ht
 exact h fuel H enc fuel (Nat.le_refl _) _ _ hf
end Go.Proofs.YtknelogmocedeaaGreatDoor
namespace Go.Proofs.YtknelogmocedeaaGreatDoor.Tl
open Go.RowKit
set_option linter.unusedVariables false
def GNd:List V→Prop:=fun l=>∃f:Nd,l=cN f
theorem gnds:∀xs:List (List V),(∀c∈xs,GNd c)→∃a:List Nd,xs=cNs a
 | [],_=>⟨[],rfl⟩
 | c::r,h=>by
  obtain⟨s,hs⟩:=h c List.mem_cons_self
  obtain⟨a,ha⟩:=gnds r (fun c hc=>h c (List.mem_cons_of_mem _ hc))
  exact⟨s::a,by rw[hs,ha];rfl⟩
theorem opV_node(w:World):∀n,OpV Tryz.prog w n 29 GNd
 | 0=>fun H enc fuel hf cs y h=>by
  obtain rfl:fuel=0:=by omega
  simp[DataW.trod] at h
 | 1=>fun H enc fuel hf cs y h=>by
  obtain⟨xs,m,hm,_,hl,hx,hg⟩:=DataW.trod_struct Tryz.underlying29 h
  obtain rfl:m=0:=by omega
  have:=hg 0 _ rfl
  rw[List.getElem?_eq_getElem (by rw[hx];decide)] at this
  simp[DataW.trod] at this
 | n+2=>by
  have ih:=opV_node w n
  have hs:=opV_struct (w:=w) (n:=n+1) (Gs:=[GInt .i64,GStr,GSl GNd]) Tryz.underlying29 (by kernel_rfl)
   ⟨rfl,opV_int Tryz.underlying3,by kernel_rfl,opV_str Tryz.underlying9,by kernel_rfl,opV_slice Tryz.underlying27 (of_decide_eq_true (by kernel_rfl)) ih,trivial⟩
  refine hs.imp fun l h=>?_
  obtain⟨_,_,rfl,⟨k,rfl,_⟩,_,_,rfl,⟨n1,rfl⟩,_,_,rfl,⟨ys,rfl,hys⟩,rfl⟩:=h
  obtain⟨m,rfl⟩:=gnds ys hys
  exact⟨.mk k n1 m,rfl⟩
theorem node_rep{w:World}{f:Nd}{cs:Array Value}(h:RepL w (Lall w) (cN f) (Value.agg cs).cells.toList):Rep w (Lall w) (.agg (cM f)) (.agg cs):=⟨cs,rfl,by rw[←cM_eq];exact h⟩
end Go.Proofs.YtknelogmocedeaaGreatDoor.Tl
namespace Go.Proofs.YtknelogmocedeaaGreatDoor.Pa
open Go.RowKit Tl
open Fi (encS)
set_option linter.unusedVariables false
theorem opV_zero{P:Program}{w:World}{t:TypeId}{G:List V→Prop}:OpV P w 0 t G:=fun H enc fuel hf cs y h=>by
 obtain rfl:fuel=0:=by omega
 simp[DataW.trod] at h
theorem opV_sliceA{P:Program}{w:World}{t e:TypeId}{G:List V→Prop}(ht:P.underlying t=some (.slice e))(hk0:0 < P.cellsOf e)(he:∀n,OpV P w n e G):∀n,OpV P w n t (GSl G)
 | 0=>opV_zero
 | n+1=>opV_slice ht hk0 (he n)
theorem opV_structA{P:Program}{w:World}{t:TypeId}{fs:Array Field}{Gs:List (List V→Prop)}(ht:P.underlying t=some (.struct fs))(hc:P.cellsOf t=total P fs.toList)(hf:∀n,Flds P w n 0 fs.toList Gs):∀n,OpV P w n t (Cats Gs)
 | 0=>opV_zero
 | n+1=>opV_struct ht hc (hf n)
theorem gstrs:∀xs:List (List V),(∀c∈xs,GStr c)→∃a:List ByteArray,xs=a.map encS
 | [],_=>⟨[],rfl⟩
 | c::r,h=>by
  obtain⟨s,hs⟩:=h c List.mem_cons_self
  obtain⟨a,ha⟩:=gstrs r (fun c hc=>h c (List.mem_cons_of_mem _ hc))
  exact⟨s::a,by rw[hs,ha];rfl⟩
theorem opV_strs(w:World):∀n,OpV Tryz.prog w n 22 (GSl GStr):=opV_sliceA Tryz.underlying22 (of_decide_eq_true (by kernel_rfl)) (fun n=>opV_str Tryz.underlying9)
def GCtl:List V→Prop:=fun l=>∃c:Ctl,l=cCtl c
theorem opV_ctl(w:World):∀n,OpV Tryz.prog w n 41 GCtl:=fun n=>
 (opV_structA (w:=w) (Gs:=[GStr,GBool,GStr,GBool]) Tryz.underlying41 (by kernel_rfl) (fun n=>⟨rfl,opV_str Tryz.underlying9,by kernel_rfl,opV_bool Tryz.underlying4,by kernel_rfl,opV_str Tryz.underlying9,by kernel_rfl,opV_bool Tryz.underlying4,trivial⟩) n).imp fun l h=>by
  obtain⟨_,_,rfl,⟨a,rfl⟩,_,_,rfl,⟨b,rfl⟩,_,_,rfl,⟨c,rfl⟩,_,_,rfl,⟨d,rfl⟩,rfl⟩:=h
  exact⟨⟨a,b,c,d⟩,rfl⟩
def GAtt:List V→Prop:=fun l=>∃c:Att,l=cAtt c
theorem opV_att(w:World):∀n,OpV Tryz.prog w n 24 GAtt:=fun n=>
 (opV_structA (w:=w) (Gs:=[GStr,GSl GStr]) Tryz.underlying24 (by kernel_rfl) (fun n=>⟨rfl,opV_str Tryz.underlying9,by kernel_rfl,opV_strs w n,trivial⟩) n).imp fun l h=>by
  obtain⟨_,_,rfl,⟨a,rfl⟩,_,_,rfl,⟨xs,rfl,hxs⟩,rfl⟩:=h
  obtain⟨v,rfl⟩:=gstrs xs hxs
  exact⟨⟨a,v⟩,rfl⟩
def GChg:List V→Prop:=fun l=>∃c:Chg,l=cChg c
theorem opV_chg(w:World):∀n,OpV Tryz.prog w n 49 GChg:=fun n=>
 (opV_structA (w:=w) (Gs:=[GInt .i64,GAtt]) Tryz.underlying49 (by kernel_rfl) (fun n=>⟨rfl,opV_int Tryz.underlying3,by kernel_rfl,opV_att w n,trivial⟩) n).imp fun l h=>by
  obtain⟨_,_,rfl,⟨k,rfl,_⟩,_,_,rfl,⟨a,rfl⟩,rfl⟩:=h
  exact⟨⟨k,a⟩,rfl⟩
def GRes:List V→Prop:=fun l=>∃c:Res,l=cRes c
theorem opV_res(w:World):∀n,OpV Tryz.prog w n 51 GRes:=fun n=>
 (opV_structA (w:=w) (Gs:=[GInt .i64,GStr,GStr,GSl GStr]) Tryz.underlying51 (by kernel_rfl) (fun n=>⟨rfl,opV_int Tryz.underlying3,by kernel_rfl,opV_str Tryz.underlying9,by kernel_rfl,opV_str Tryz.underlying9,by kernel_rfl,opV_strs w n,trivial⟩) n).imp fun l h=>by
  obtain⟨_,_,rfl,⟨k,rfl,_⟩,_,_,rfl,⟨a,rfl⟩,_,_,rfl,⟨b,rfl⟩,_,_,rfl,⟨xs,rfl,hxs⟩,rfl⟩:=h
  obtain⟨v,rfl⟩:=gstrs xs hxs
  exact⟨⟨k,a,b,v⟩,rfl⟩
def GNds:List V→Prop:=fun l=>∃a:List Nd,l=[.sl (a.map cN)]
theorem opV_nodes(w:World):∀n,OpV Tryz.prog w n 27 GNds:=fun n=>
 (opV_sliceA Tryz.underlying27 (of_decide_eq_true (by kernel_rfl)) (opV_node w) n).imp fun l h=>by
  obtain⟨ys,rfl,hys⟩:=h
  obtain⟨m,rfl⟩:=gnds ys hys
  exact⟨m,by rw[cNs_map]⟩
theorem agg_rep{w:World}{L:Lv}{l:List V}{cs:Array Value}(h:RepL w L l (Value.agg cs).cells.toList):Rep w L (.agg l) (.agg cs):=⟨cs,rfl,h⟩
theorem sl_rep{w:World}{L:Lv}{xs:List (List V)}{b:Option Addr}{n c:Nat}(h:RepL w L [.sl xs] (Value.slice b n c).cells.toList):Rep w L (.sl xs) (.slice b n c):=by
 obtain⟨u,us,e,_,h1,h2⟩:=h
 obtain rfl:us=[]:=h2
 have:u=.slice b n c:=by
  have e':[Value.slice b n c]=[u]:=e
  injection e' with e' _
  exact e'.symm
 rw[←this];exact h1
end Go.Proofs.YtknelogmocedeaaGreatDoor.Pa
