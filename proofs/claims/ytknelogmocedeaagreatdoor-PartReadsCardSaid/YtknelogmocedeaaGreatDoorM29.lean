/- Several texts, one behind the other. part, walked: results. Conditions: at most 10^8 in one tree, texts of at most 10^6 bytes. latinerref08.Texts, walked: are two lists of texts the same? Conditions: at most 10^9 in one. latinerref02.Same, latinerref10.Trees, SameAttr, SameResult, walked. Conditions: at most 10^8 in one. Trees cut as chapter 2's (latinerlaw02.Cut), walked. No conditions. The statements of latinerlaw10, walked: what they cut. No conditions. -/
import Derived.Test.YtknelogmocedeaaGreatDoorM28
import Derived.Test.YtknelogmocedeaaGreatDoorM25
namespace Go.Proofs.YtknelogmocedeaaGreatDoor.Pa
open Go.RowKit Go.Shelf Go.Lib Tl Pr
open Fl (bl bt' bl_bt bl_of size_bl)
open Fi (one_arg encS all_take_succ all_bad)
set_option linter.unusedVariables false
variable {X : En} (p : Nat → Addr)
theorem utf_fn(s:ByteArray)(hs:s.size≤1000000000):Fn Tryz.prog (envX p) 104 [.v (.str s)] (.v (.bool (Utf.utfB s))):=
 Fn.of_plain (enter_of (by kernel_rfl)) rfl fun w L vs hE ha=>by
  obtain⟨v,rfl,h⟩:=one_arg ha
  rw[show v=.string s from h]
  exact Utf.right_calls s hs w hE.ut
def refB(s:ByteArray):Bool:=decide (s.size≠0)&&Utf.utfB s
theorem refs_fn(l:List ByteArray)(hl:l.length≤100000000)(hs:∀s∈l,s.size≤1000000000):Fn Tryz.prog (envX p) 105 [.v (.sl (l.map encS))] (.v (.bool (refsB l))):=by
 have hh:=short_fn (X:=envX p) 60 l (by omega)
 have hr:refsB l=(l.all refB&&(decide (l.length≤3)&&allSz 60 l)):=rfl
 refine fn_prog tabOk mixed Tryz.f105 Tryz.func105 (by kernel_rfl) (by kernel_rfl) ?_
 conv=>whnf
 refine⟨Nat,fun i=>⟨26,[(0,.v (.sl (l.map encS))),(5,.v (.sl (l.map encS))),(6,.v (.int .i64 ((l.map encS).length:Nat))),(7,.v (.int .i64 (i:Nat)))],[],[]⟩,fun i=>i≤l.length∧(l.take i).all refB=true,fun i=>l.length - i,⟨0,[],⟨by omega,rfl⟩,?_⟩,fun i ⟨hi,ha⟩=>?_⟩
 ·(focus ((repeat' first|exact trivial|exact rfl|exact .inl rfl|exact .inr ⟨rfl,rfl⟩|refine And.intro ?_ ?_);done))
 conv=>whnf
 refine⟨rfl,cmp_split (fun h=>?_) (fun h=>?_)⟩
 ·rw [List.length_map] at h
  have hil:i < l.length:=by omega
  have hbad:refB l[i]=false→refsB l=false:=fun e=>by rw[hr,all_bad hil e,Bool.false_and]
  conv=>whnf
  refine st_idx hil rfl ?_
  conv=>whnf
  refine cmp_split (fun h2=>?_) (fun h2=>?_)
  ·conv=>whnf
   rw[hbad (by unfold refB;rw[show decide (l[i].size≠0)=false from decide_eq_false (fun e=>e (Fi.size0.2 h2)),Bool.false_and])]
   (focus ((repeat' first|exact trivial|exact rfl|exact .inl rfl|exact .inr ⟨rfl,rfl⟩|refine And.intro ?_ ?_);done))
  ·conv=>whnf
   refine st_callB (utf_fn p l[i] (hs _ (List.getElem_mem hil))) ⟨.inl rfl,trivial⟩ rfl (fun h3=>?_) (fun h3=>?_)
   ·conv=>whnf
    refine⟨rfl,st_succ (by omega) ?_⟩
    conv=>whnf
    refine⟨i+1,[],⟨hil,?_⟩,by dsimp only;omega,?_⟩
    ·rw[all_take_succ _ _ _ hil,ha,Bool.true_and]
     unfold refB
     rw[h3,show decide (l[i].size≠0)=true from decide_eq_true (fun e=>h2 (Fi.size0.1 e))]
     rfl
    ·(focus ((repeat' first|exact trivial|exact rfl|exact .inl rfl|exact .inr ⟨rfl,rfl⟩|refine And.intro ?_ ?_);done))
   ·conv=>whnf
    rw[hbad (by unfold refB;rw[h3,Bool.and_false])]
    (focus ((repeat' first|exact trivial|exact rfl|exact .inl rfl|exact .inr ⟨rfl,rfl⟩|refine And.intro ?_ ?_);done))
 ·rw[List.length_map] at h
  rw[List.take_of_length_le (by omega)] at ha
  rw[ha,Bool.true_and] at hr
  conv=>whnf
  refine⟨rfl,cmp_split (fun h2=>?_) (fun h2=>?_)⟩
  ·rw[List.length_map] at h2
   rw[show decide (l.length≤3)=true from decide_eq_true (by omega),Bool.true_and] at hr
   conv=>whnf
   (refine st_call hh ?_ rfl rfl ?_;(focus ((repeat' first|exact trivial|exact rfl|exact .inl rfl|exact .inr ⟨rfl,rfl⟩|refine And.intro ?_ ?_);done));conv=>whnf)
   rw[hr]
   (focus ((repeat' first|exact trivial|exact rfl|exact .inl rfl|exact .inr ⟨rfl,rfl⟩|refine And.intro ?_ ?_);done))
  ·rw[List.length_map] at h2
   rw[show decide (l.length≤3)=false from decide_eq_false (by omega),Bool.false_and] at hr
   conv=>whnf
   rw[hr]
   (focus ((repeat' first|exact trivial|exact rfl|exact .inl rfl|exact .inr ⟨rfl,rfl⟩|refine And.intro ?_ ?_);done))
def cRes(r:Res):List V:=[.int .i64 r.code,.str r.dn,.str r.text,.sl (r.refs.map encS)]
def resS:ByteArray:=⟨#[114,101,115,117,108,116]⟩
structure midR(r:Res):Prop where
 dn:r.dn.size≤1000000
 text:r.text.size≤1000000000
 refs:r.refs.length≤100000000∧∀s∈r.refs,s.size≤1000000000
theorem check_res(r:Res)(hm:midR r):Fn Tryz.prog (envX p) 64 [.v (.agg (cRes r))] (.v (errU resS (resB r))):=by
 have hd:=dn_fn p r.dn hm.dn
 have ht:=utf_fn p r.text hm.text
 have hs:=short_fn (X:=envX p) 60 [r.text] (by simp)
 have hr:=refs_fn p r.refs hm.refs.1 hm.refs.2
 have hu:=unless_fn (X:=envX p) resS [decide (0≤r.code),decide (r.code≤200),dnB r.dn,Utf.utfB r.text,allSz 60 [r.text],refsB r.refs,decide (decide (r.code=10)=decide (0 < (((r.refs.map encS).length:Nat):Int)))] (by simp)
 have he:[decide (0≤r.code),decide (r.code≤200),dnB r.dn,Utf.utfB r.text,allSz 60 [r.text],refsB r.refs,decide (decide (r.code=10)=decide (0 < (((r.refs.map encS).length:Nat):Int)))].all id=resB r:=by
  unfold resB
  rw[List.length_map,show decide (decide (r.code=10)=decide (0 < ((r.refs.length:Nat):Int)))=decide (r.code=10↔0 < r.refs.length) from decide_eq_decide.2 (by rw[decide_eq_decide];exact⟨fun h=>h.trans (by omega),fun h=>h.trans (by omega)⟩)]
  simp only[List.all_cons,List.all_nil,id,Bool.and_true,allSz]
 rw[he] at hu
 cases hB:resB r <;> rw[hB] at hu
 all_goals
  refine fn_prog tabOk mixed Tryz.f64 Tryz.func64 (by kernel_rfl) (by kernel_rfl) ?_
  conv=>whnf
  (refine⟨some [9999],by kernel_rfl,⟨(.one 0 (.one 1 (.one 2 (.one 3 (.one 4 (.one 5 (.one 6 (.one 7 (.one 9 (.one 10 (.one 12 (.one 13 (.one 16 (.one 17 (.one 19 (.one 20 (.one 21 (.one 22 (.one 23 (.one 24 (.one 25 (.one 26 (.or (.one 8 (.or (.one 11 (.one 14 (.one 15 (.one 18 (.one 27 (.one 28 (.one 29 .nil))))))) (.one 14 (.one 11 (.one 15 (.one 18 (.one 27 (.one 28 (.one 29 .nil))))))))) (.one 14 (.one 8 (.one 11 (.one 15 (.one 18 (.one 27 (.one 28 (.one 29 .nil))))))))))))))))))))))))))))))),by kernel_rfl,?_,?_,?_⟩⟩;rotate_left;(focus ((conv=>whnf);(repeat' (first | (((with_reducible apply st_call (hd));(focus ((repeat' first|exact trivial|exact rfl|exact .inl rfl|exact .inr ⟨rfl,rfl⟩|refine And.intro ?_ ?_);done));(focus (exact rfl));(focus (exact rfl))) <;> (conv=>whnf)) | (((with_reducible apply st_call (ht));(focus ((repeat' first|exact trivial|exact rfl|exact .inl rfl|exact .inr ⟨rfl,rfl⟩|refine And.intro ?_ ?_);done));(focus (exact rfl));(focus (exact rfl))) <;> (conv=>whnf)) | (((with_reducible apply st_call (hs));(focus ((repeat' first|exact trivial|exact rfl|exact .inl rfl|exact .inr ⟨rfl,rfl⟩|refine And.intro ?_ ?_);done));(focus (exact rfl));(focus (exact rfl))) <;> (conv=>whnf)) | (((with_reducible apply st_call (hr));(focus ((repeat' first|exact trivial|exact rfl|exact .inl rfl|exact .inr ⟨rfl,rfl⟩|refine And.intro ?_ ?_);done));(focus (exact rfl));(focus (exact rfl))) <;> (conv=>whnf)) | (((with_reducible apply st_call (hu));(focus ((repeat' first|exact trivial|exact rfl|exact .inl rfl|exact .inr ⟨rfl,rfl⟩|refine And.intro ?_ ?_);done));(focus (exact rfl));(focus (exact rfl))) <;> (conv=>whnf)) | ((refine⟨rfl,cmp_bool ?_⟩) <;> (conv=>whnf)) | ((refine cmp_bool ?_) <;> (conv=>whnf)) | ((refine And.intro ?_ ?_) <;> (conv=>whnf)) | (exact St.le_refl _) | (refine⟨rfl,?_,?_,?_⟩ <;> (repeat' (first | exact trivial | (refine⟨rfl,?_⟩)));done) | fail)))));conv=>whnf
  (focus ((repeat' first|exact trivial|exact rfl|exact .inl rfl|exact .inr ⟨rfl,rfl⟩|refine And.intro ?_ ?_);done))
def ResT(r:Res):T:=if resB r=true then .tup [.v (.sl ((resN r).map cM)),.v (.int .i64 0)] else .tup [.v (.sl []),.v (.int .i64 100)]
theorem Result_fn(r:Res)(hm:midR r):Fn Tryz.prog (envX p) 28 [.v (.agg (cRes r))] (ResT r):=by
 have hc:=check_res p r hm
 unfold ResT
 cases hB:resB r
 ·rw[hB] at hc
  rw[if_neg (by decide)]
  refine fn_prog tabOk mixed Tryz.f28 Tryz.func28 (by kernel_rfl) (by kernel_rfl) ?_
  conv=>whnf
  (refine st_call hc ?_ rfl rfl ?_;(focus ((repeat' first|exact trivial|exact rfl|exact .inl rfl|exact .inr ⟨rfl,rfl⟩|refine And.intro ?_ ?_);done));conv=>whnf)
  (refine st_call (told_wrong_fn p resS) ?_ rfl rfl ?_;(focus ((repeat' first|exact trivial|exact rfl|exact .inl rfl|exact .inr ⟨rfl,rfl⟩|refine And.intro ?_ ?_);done));conv=>whnf)
  (focus ((repeat' first|exact trivial|exact rfl|exact .inl rfl|exact .inr ⟨rfl,rfl⟩|refine And.intro ?_ ?_);done))
 ·rw[hB] at hc
  rw[if_pos rfl]
  have h1:=number_fn p r.code
  have h2:=text_fn (X:=envX p) r.dn
  have h3:=text_fn (X:=envX p) r.text
  have h4:=texts_fn (X:=envX p) 163 r.refs hm.refs.1
  unfold resN
  by_cases h0:0 < r.refs.length
  ·rw[if_pos h0]
   refine fn_prog tabOk mixed Tryz.f28 Tryz.func28 (by kernel_rfl) (by kernel_rfl) ?_
   conv=>whnf
   (refine st_call hc ?_ rfl rfl ?_;(focus ((repeat' first|exact trivial|exact rfl|exact .inl rfl|exact .inr ⟨rfl,rfl⟩|refine And.intro ?_ ?_);done));conv=>whnf)
   refine⟨some [0,1,3,4,6,7,2,5,8,9,10],by kernel_rfl,?_⟩;conv=>whnf
   (refine st_call h1 ?_ rfl rfl ?_;(focus ((repeat' first|exact trivial|exact rfl|exact .inl rfl|exact .inr ⟨rfl,rfl⟩|refine And.intro ?_ ?_);done));conv=>whnf)
   (refine st_call h2 ?_ rfl rfl ?_;(focus ((repeat' first|exact trivial|exact rfl|exact .inl rfl|exact .inr ⟨rfl,rfl⟩|refine And.intro ?_ ?_);done));conv=>whnf)
   (refine st_call h3 ?_ rfl rfl ?_;(focus ((repeat' first|exact trivial|exact rfl|exact .inl rfl|exact .inr ⟨rfl,rfl⟩|refine And.intro ?_ ?_);done));conv=>whnf)
   refine⟨rfl,cmp_true (by rw[List.length_map];omega) ?_⟩
   conv=>whnf
   (refine st_call h4 ?_ rfl rfl ?_;(focus ((repeat' first|exact trivial|exact rfl|exact .inl rfl|exact .inr ⟨rfl,rfl⟩|refine And.intro ?_ ?_);done));conv=>whnf)
   refine st_app (by simp) (by intro c hc;simp at hc;rw[hc];rfl) (show _=([numN r.code,leafN 4 r.dn,leafN 4 r.text]++[leavesN 163 r.refs]).map cM from rfl) ?_
   conv=>whnf
   (focus ((repeat' first|exact trivial|exact rfl|exact .inl rfl|exact .inr ⟨rfl,rfl⟩|refine And.intro ?_ ?_);done))
  ·rw[if_neg h0]
   refine fn_prog tabOk mixed Tryz.f28 Tryz.func28 (by kernel_rfl) (by kernel_rfl) ?_
   conv=>whnf
   (refine st_call hc ?_ rfl rfl ?_;(focus ((repeat' first|exact trivial|exact rfl|exact .inl rfl|exact .inr ⟨rfl,rfl⟩|refine And.intro ?_ ?_);done));conv=>whnf)
   refine⟨some [0,1,3,4,6,7,2,5,8,9,10],by kernel_rfl,?_⟩;conv=>whnf
   (refine st_call h1 ?_ rfl rfl ?_;(focus ((repeat' first|exact trivial|exact rfl|exact .inl rfl|exact .inr ⟨rfl,rfl⟩|refine And.intro ?_ ?_);done));conv=>whnf)
   (refine st_call h2 ?_ rfl rfl ?_;(focus ((repeat' first|exact trivial|exact rfl|exact .inl rfl|exact .inr ⟨rfl,rfl⟩|refine And.intro ?_ ?_);done));conv=>whnf)
   (refine st_call h3 ?_ rfl rfl ?_;(focus ((repeat' first|exact trivial|exact rfl|exact .inl rfl|exact .inr ⟨rfl,rfl⟩|refine And.intro ?_ ?_);done));conv=>whnf)
   refine⟨rfl,cmp_false (by rw[List.length_map];omega) ?_⟩
   conv=>whnf
   (focus ((repeat' first|exact trivial|exact rfl|exact .inl rfl|exact .inr ⟨rfl,rfl⟩|refine And.intro ?_ ?_);done))
def bRes(r:Res):List T:=[.v (.int .i64 r.code),.v (.str r.dn),.v (.str r.text),.v (.sl (r.refs.map encS))]
def bRes0:List T:=[.v (.int .i64 0),.v (.str (bt' [])),.v (.str (bt' [])),.v .nils]
theorem res_bad(r:Res):FnD Tryz.prog X 106 [[.v (paErr resS)],bRes r] [.ptr 0 0,.ptr 1 0] [[.v (paErr resS)],bRes0]:=by
 refine fnD_prog tabOk mixed Tryz.f106 Tryz.func106 (by kernel_rfl) (by kernel_rfl) (by kernel_rfl) (by kernel_rfl) rfl rfl rfl rfl ?_
 conv=>whnf
 (focus ((repeat' first|exact trivial|exact rfl|exact .inl rfl|exact .inr ⟨rfl,rfl⟩|refine And.intro ?_ ?_);done))
theorem res_good(r:Res):FnD Tryz.prog X 106 [[.v .nili],bRes r] [.ptr 0 0,.ptr 1 0] [[.v .nili],bRes r]:=by
 refine fnD_prog tabOk mixed Tryz.f106 Tryz.func106 (by kernel_rfl) (by kernel_rfl) (by kernel_rfl) (by kernel_rfl) rfl rfl rfl rfl ?_
 conv=>whnf
 (focus ((repeat' first|exact trivial|exact rfl|exact .inl rfl|exact .inr ⟨rfl,rfl⟩|refine And.intro ?_ ?_);done))
def resR:Option Res→T
 | some r=>.tup [.v (.agg (cRes r)),.v .nili]
 | none=>.tup [.v (.agg (cRes res0)),.v (paErr resS)]
abbrev shortT(l:List Nd):Prop:=∀x∈l,x.data.size≤1000000
theorem take_sz{tag:Int}{t:Tk}(h:shortT t.1):(takeD tag t).1.size≤1000000∧shortT (takeD tag t).2.1:=by
 unfold takeD
 split
 ·rename_i x r hn
  obtain⟨h1,_⟩:=next_some hn
  rw[h1] at h
  exact⟨h x (by simp),fun y hy=>h y (by simp[hy])⟩
 ·exact⟨Nat.zero_le _,h⟩
theorem takeI_sz{t:Tk}(h:shortT t.1):shortT (takeI t).2.1:=by
 unfold takeI
 split
 ·exact(take_sz h).2
 ·exact(take_sz h).2
theorem all_sz{M:Nat}(tag:Int):∀l:List Nd,(∀x∈l,x.data.size≤M)→∀s∈(allD tag l).1,s.size≤M
 | [],_,s,hs=>by cases hs
 | x::r,h,s,hs=>by
  rw[allD] at hs
  split at hs
  ·rcases List.mem_cons.1 hs with rfl | hs
   ·exact h x (by simp)
   ·exact all_sz tag r (fun y hy=>h y (by simp[hy])) s hs
  ·cases hs
theorem list_sz{tag:Int}{t:Tk}(h:limT t):∀s∈(takeL tag t).1,s.size≤100000000:=by
 unfold takeL
 split
 ·rename_i x r hn
  have:=(next_lim hn h).1
  exact all_sz 4 _ fun y hy=>(kidLe_at (kidLes_mem (kidLe_at this).2.2 y hy)).1
 ·intro s hs;cases hs
theorem refs_lim{t:Tk}(h:limT t):(takeR t).1.length≤100000000∧(∀s∈(takeR t).1,s.size≤100000000):=by
 unfold takeR
 split
 ·exact⟨(list_lim h).1,list_sz h⟩
 ·exact⟨Nat.zero_le _,fun s hs=>by cases hs⟩
theorem resN_mid{r:Res}(h:resB r=true):midNs (resN r):=by
 unfold resB refsB at h
 simp only[Bool.and_eq_true,decide_eq_true_eq] at h
 obtain⟨_,_,_,_,_,⟨_,h1,_⟩,_⟩:=h
 have hk:∀l:List ByteArray,midNs (l.map (leafN 4)):=by
  intro l
  induction l with
  | nil=>trivial
  | cons x r ih=>exact⟨⟨by decide,trivial⟩,ih⟩
 unfold resN
 split
 ·exact⟨⟨by decide,trivial⟩,⟨by decide,trivial⟩,⟨by decide,trivial⟩,⟨by rw[List.length_map];omega,hk _⟩,trivial⟩
 ·exact⟨⟨by decide,trivial⟩,⟨by decide,trivial⟩,⟨by decide,trivial⟩,trivial⟩
theorem resN_len(r:Res):(resN r).length≤4:=by
 unfold resN
 split <;> simp
set_option maxHeartbeats 8000000 in
theorem result_fn(l:List Nd)(hl:l.length≤100000000∧kidLes 100000000 l)(hs:shortT l):Fn Tryz.prog (envX p) 65 [.v (.sl (l.map cN))] (resR (readR l)):=by
 refine fn_of_m ?_
 have l0:limT (l,false):=hl
 have hI:=number_taken p (l,false) hl.1 (by have:=(take_lim (tag:=10) l0).1;omega)
 have l1:=numI_lim l0
 have z1:=takeI_sz (t:=(l,false)) hs
 have hrd:readR l=(let a:=takeI (l,false);let b:=takeD 4 a.2;let c:=takeD 4 b.2;let d:=takeR c.2;if d.2.2=false∧d.2.1=[]∧resB ⟨a.1,b.1,c.1,d.1⟩=true∧sameNs (resN ⟨a.1,b.1,c.1,d.1⟩) l=true then some ⟨a.1,b.1,c.1,d.1⟩ else none):=rfl
 generalize takeI (l,false)=x at hI l1 z1 hrd
 obtain⟨k,t1⟩:=x
 dsimp only at hI l1 z1 hrd
 have hD:=data_fn (X:=envX p) 4 t1 l1.1
 have l2:=take_lim (tag:=4) l1
 have z2:=take_sz (tag:=4) z1
 generalize takeD 4 t1=x at hD l2 z2 hrd
 obtain⟨d,t2⟩:=x
 dsimp only at hD l2 z2 hrd
 have hT:=data_fn (X:=envX p) 4 t2 l2.2.1
 have l3:=take_lim (tag:=4) l2.2
 generalize takeD 4 t2=x at hT l3 hrd
 obtain⟨tx,t3⟩:=x
 dsimp only at hT l3 hrd
 have hI3:=isIn_fn (X:=envX p) 163 t3
 have hL:=list_fn (X:=envX p) 163 (by decide) t3 l3.2.1 (limT_mid l3.2).2
 have l4:=refs_lim l3.2
 obtain⟨rf,t4,hR,hsr⟩:∃(rf:List ByteArray) (t4:Tk),takeR t3=(rf,t4)∧((isIn 163 t3=false∧rf=[]∧t4=t3)∨(isIn 163 t3=true∧rf=(takeL 163 t3).1∧t4=(takeL 163 t3).2)):=by
  cases hi:isIn 163 t3
  ·exact⟨[],t3,by unfold takeR;rw[hi];rfl,.inl ⟨rfl,rfl,rfl⟩⟩
  ·exact⟨_,_,by unfold takeR;rw[hi];rfl,.inr ⟨rfl,rfl,rfl⟩⟩
 rw[hR] at hrd l4
 dsimp only at hrd l4
 have hE:=end_fn (X:=envX p) t4
 have hU:Fn Tryz.prog (envX p) 82 [.v (.str resS),.v (.sl ([!t4.2,decide (t4.1=[])].map fun b=>[V.bool b]))] (.v (errU resS (endU t4.2 t4.1))):=unless_fn (X:=envX p) resS _ (by simp)
 have hm:midR ⟨k,d,tx,rf⟩:=⟨z2.1,by have:=l3.1;show tx.size≤_;omega,l4.1,fun s hs=>by have:=l4.2 s hs;omega⟩
 have hA:=Result_fn p _ hm
 unfold ResT at hA
 have hgd:=res_good (X:=envX p) ⟨k,d,tx,rf⟩
 have hbd:=res_bad (X:=envX p) ⟨k,d,tx,rf⟩
 have hmn:=kidLes_mid (Nat.le_refl _) hl.2
 obtain⟨m,e,hA2,hF,hfin⟩:∃(m:List Nd) (e:Int),Fn Tryz.prog (envX p) 28 [.v (.agg (cRes ⟨k,d,tx,rf⟩))] (.tup [.v (.sl (m.map cM)),.v (.int .i64 e)])∧Fn Tryz.prog (envX p) 49 [.v (.sl (m.map cM)),.v (.sl (l.map cN)),.fn 14 []] (.v (.bool (sameNs m l)))∧(endU t4.2 t4.1=true→readR l=if [decide (e=0),sameNs m l].all id=true then some ⟨k,d,tx,rf⟩ else none):=by
  have hmap:∀m:List Nd,m.map cM=m.map cN:=fun m=>List.map_congr_left fun x _=>(cM_eq x).symm
  cases hB:resB ⟨k,d,tx,rf⟩
  ·rw[hB,if_neg (by decide)] at hA
   refine⟨[],100,hA,eqN_fn [] l (by decide) (fun x hx=>by cases hx),fun h=>?_⟩
   rw[hrd,if_neg (fun h=>by rw[hB] at h;cases h.2.2.1)]
   rfl
  ·rw[hB,if_pos rfl] at hA
   refine⟨_,0,hA,by rw[hmap];exact eqN_fn _ l (by have:=resN_len ⟨k,d,tx,rf⟩;omega) (fun x hx y hy=>Tl.same_fn x y (midNs_mem (resN_mid hB) x hx) (midNs_mem hmn y hy)),fun h=>?_⟩
   obtain⟨u1,u2⟩:=(endU_iff _ _).1 h
   rw[hrd]
   cases hq:sameNs (resN ⟨k,d,tx,rf⟩) l
   ·rw[if_neg (fun h=>by cases h.2.2.2),if_neg (by simp)]
   ·rw[if_pos ⟨u1,u2,hB,rfl⟩,if_pos (by simp)]
 have hU2:=unless_fn (X:=envX p) resS [decide (e=0),sameNs m l] (by simp)
 clear hA hm l4 hl hs hmn l0 l1 l2 l3 z1 z2 hR
 cases hu:endU t4.2 t4.1
 ·rw[hu] at hU
  rw[show readR l=none from by rw[hrd,if_neg fun h=>by rw[(endU_iff _ _).2 ⟨h.1,h.2.1⟩] at hu;cases hu]]
  rcases hsr with⟨hi,rfl,rfl⟩ | ⟨hi,rfl,rfl⟩
  all_goals
   rw[hi] at hI3
   refine fnM_defer (d:=8) (fc:=106) tabOk mixed Tryz.f65 Tryz.func65 (by kernel_rfl) rfl rfl rfl rfl rfl rfl rfl rfl rfl (by decide) (by decide) (by kernel_rfl) rfl rfl rfl rfl ?_
   conv=>whnf
   (refine st_callM [12] (hI) rfl ?_ ?_ rfl ?_;(focus ((repeat' first|exact trivial|exact rfl|exact .inl rfl|exact .inr ⟨rfl,rfl⟩|refine And.intro ?_ ?_);done));(focus ((repeat' first|exact trivial|exact rfl|exact .inl rfl|exact .inr ⟨rfl,rfl⟩|refine And.intro ?_ ?_);done));conv=>whnf)
   (refine st_callM [12] (hD) rfl ?_ ?_ rfl ?_;(focus ((repeat' first|exact trivial|exact rfl|exact .inl rfl|exact .inr ⟨rfl,rfl⟩|refine And.intro ?_ ?_);done));(focus ((repeat' first|exact trivial|exact rfl|exact .inl rfl|exact .inr ⟨rfl,rfl⟩|refine And.intro ?_ ?_);done));conv=>whnf)
   (refine st_callM [12] (hT) rfl ?_ ?_ rfl ?_;(focus ((repeat' first|exact trivial|exact rfl|exact .inl rfl|exact .inr ⟨rfl,rfl⟩|refine And.intro ?_ ?_);done));(focus ((repeat' first|exact trivial|exact rfl|exact .inl rfl|exact .inr ⟨rfl,rfl⟩|refine And.intro ?_ ?_);done));conv=>whnf)
   (refine st_callM [12] (hI3) rfl ?_ ?_ rfl ?_;(focus ((repeat' first|exact trivial|exact rfl|exact .inl rfl|exact .inr ⟨rfl,rfl⟩|refine And.intro ?_ ?_);done));(focus ((repeat' first|exact trivial|exact rfl|exact .inl rfl|exact .inr ⟨rfl,rfl⟩|refine And.intro ?_ ?_);done));conv=>whnf)
   try (refine st_callM [12] (hL) rfl ?_ ?_ rfl ?_;(focus ((repeat' first|exact trivial|exact rfl|exact .inl rfl|exact .inr ⟨rfl,rfl⟩|refine And.intro ?_ ?_);done));(focus ((repeat' first|exact trivial|exact rfl|exact .inl rfl|exact .inr ⟨rfl,rfl⟩|refine And.intro ?_ ?_);done));conv=>whnf)
   (refine⟨some [9999],by kernel_rfl,⟨(.one 0 (.one 1 (.one 2 (.one 5 (.or (.one 3 (.one 4 (.one 6 (.one 7 (.one 8 (.one 9 .nil)))))) (.one 6 (.one 3 (.one 4 (.one 7 (.one 8 (.one 9 .nil))))))))))),by kernel_rfl,?_,?_,?_⟩⟩;rotate_left;(focus ((conv=>whnf);(repeat' (first | (((with_reducible apply st_call (hU));(focus ((repeat' first|exact trivial|exact rfl|exact .inl rfl|exact .inr ⟨rfl,rfl⟩|refine And.intro ?_ ?_);done));(focus (exact rfl));(focus (exact rfl))) <;> (conv=>whnf)) | (((refine st_callM [12] (hE) rfl ?_ ?_ rfl ?_;(focus ((repeat' first|exact trivial|exact rfl|exact .inl rfl|exact .inr ⟨rfl,rfl⟩|refine And.intro ?_ ?_);done));(focus ((repeat' first|exact trivial|exact rfl|exact .inl rfl|exact .inr ⟨rfl,rfl⟩|refine And.intro ?_ ?_);done)))) <;> (conv=>whnf)) | ((refine And.intro ?_ ?_) <;> (conv=>whnf)) | (exact St.le_refl _) | (refine⟨rfl,?_,?_,?_⟩ <;> (repeat' (first | exact trivial | (refine⟨rfl,?_⟩)));done) | fail)))));conv=>whnf
   refine⟨rfl,[3,2],_,_,_,hbd,rfl,?_,?_,?_⟩
   ·(focus ((repeat' first|exact trivial|exact rfl|exact .inl rfl|exact .inr ⟨rfl,rfl⟩|refine And.intro ?_ ?_);done))
   ·(focus ((repeat' first|exact trivial|exact rfl|exact .inl rfl|exact .inr ⟨rfl,rfl⟩|refine And.intro ?_ ?_);done))
   conv=>whnf
   (focus ((repeat' first|exact trivial|exact rfl|exact .inl rfl|exact .inr ⟨rfl,rfl⟩|refine And.intro ?_ ?_);done))
 ·rw [hu] at hU
  rw[hfin hu]
  cases hq:[decide (e=0),sameNs m l].all id <;> rw[hq] at hU2
  all_goals
   rcases hsr with⟨hi,rfl,rfl⟩ | ⟨hi,rfl,rfl⟩
   all_goals
    rw[hi] at hI3
    refine fnM_defer (d:=8) (fc:=106) tabOk mixed Tryz.f65 Tryz.func65 (by kernel_rfl) rfl rfl rfl rfl rfl rfl rfl rfl rfl (by decide) (by decide) (by kernel_rfl) rfl rfl rfl rfl ?_
    conv=>whnf
    (refine st_callM [12] (hI) rfl ?_ ?_ rfl ?_;(focus ((repeat' first|exact trivial|exact rfl|exact .inl rfl|exact .inr ⟨rfl,rfl⟩|refine And.intro ?_ ?_);done));(focus ((repeat' first|exact trivial|exact rfl|exact .inl rfl|exact .inr ⟨rfl,rfl⟩|refine And.intro ?_ ?_);done));conv=>whnf)
    (refine st_callM [12] (hD) rfl ?_ ?_ rfl ?_;(focus ((repeat' first|exact trivial|exact rfl|exact .inl rfl|exact .inr ⟨rfl,rfl⟩|refine And.intro ?_ ?_);done));(focus ((repeat' first|exact trivial|exact rfl|exact .inl rfl|exact .inr ⟨rfl,rfl⟩|refine And.intro ?_ ?_);done));conv=>whnf)
    (refine st_callM [12] (hT) rfl ?_ ?_ rfl ?_;(focus ((repeat' first|exact trivial|exact rfl|exact .inl rfl|exact .inr ⟨rfl,rfl⟩|refine And.intro ?_ ?_);done));(focus ((repeat' first|exact trivial|exact rfl|exact .inl rfl|exact .inr ⟨rfl,rfl⟩|refine And.intro ?_ ?_);done));conv=>whnf)
    (refine st_callM [12] (hI3) rfl ?_ ?_ rfl ?_;(focus ((repeat' first|exact trivial|exact rfl|exact .inl rfl|exact .inr ⟨rfl,rfl⟩|refine And.intro ?_ ?_);done));(focus ((repeat' first|exact trivial|exact rfl|exact .inl rfl|exact .inr ⟨rfl,rfl⟩|refine And.intro ?_ ?_);done));conv=>whnf)
    try (refine st_callM [12] (hL) rfl ?_ ?_ rfl ?_;(focus ((repeat' first|exact trivial|exact rfl|exact .inl rfl|exact .inr ⟨rfl,rfl⟩|refine And.intro ?_ ?_);done));(focus ((repeat' first|exact trivial|exact rfl|exact .inl rfl|exact .inr ⟨rfl,rfl⟩|refine And.intro ?_ ?_);done));conv=>whnf)
    (refine⟨some [9999],by kernel_rfl,⟨(.one 0 (.one 1 (.one 2 (.one 5 (.or (.one 3 (.one 4 (.one 6 (.one 7 (.one 8 (.one 9 .nil)))))) (.one 6 (.one 3 (.one 4 (.one 7 (.one 8 (.one 9 .nil))))))))))),by kernel_rfl,?_,?_,?_⟩⟩;rotate_left;(focus ((conv=>whnf);(repeat' (first | (((with_reducible apply st_call (hU));(focus ((repeat' first|exact trivial|exact rfl|exact .inl rfl|exact .inr ⟨rfl,rfl⟩|refine And.intro ?_ ?_);done));(focus (exact rfl));(focus (exact rfl))) <;> (conv=>whnf)) | (((refine st_callM [12] (hE) rfl ?_ ?_ rfl ?_;(focus ((repeat' first|exact trivial|exact rfl|exact .inl rfl|exact .inr ⟨rfl,rfl⟩|refine And.intro ?_ ?_);done));(focus ((repeat' first|exact trivial|exact rfl|exact .inl rfl|exact .inr ⟨rfl,rfl⟩|refine And.intro ?_ ?_);done)))) <;> (conv=>whnf)) | ((refine And.intro ?_ ?_) <;> (conv=>whnf)) | (exact St.le_refl _) | (refine⟨rfl,?_,?_,?_⟩ <;> (repeat' (first | exact trivial | (refine⟨rfl,?_⟩)));done) | fail)))));conv=>whnf
    (refine st_call hA2 ?_ rfl rfl ?_;(focus ((repeat' first|exact trivial|exact rfl|exact .inl rfl|exact .inr ⟨rfl,rfl⟩|refine And.intro ?_ ?_);done));conv=>whnf)
    refine⟨none,by kernel_rfl,?_⟩;conv=>whnf
    refine⟨rfl,cmp_bool ?_⟩
    conv=>whnf
    refine st_call hF ⟨.inl rfl,.inl rfl,⟨rfl,trivial⟩,trivial⟩ rfl rfl ?_
    conv=>whnf
    (refine st_call hU2 ?_ rfl rfl ?_;(focus ((repeat' first|exact trivial|exact rfl|exact .inl rfl|exact .inr ⟨rfl,rfl⟩|refine And.intro ?_ ?_);done));conv=>whnf)
    first
     | (refine⟨rfl,[3,2],_,_,_,hgd,rfl,?_,?_,?_⟩;(focus ((repeat' first|exact trivial|exact rfl|exact .inl rfl|exact .inr ⟨rfl,rfl⟩|refine And.intro ?_ ?_);done));(focus ((repeat' first|exact trivial|exact rfl|exact .inl rfl|exact .inr ⟨rfl,rfl⟩|refine And.intro ?_ ?_);done)))
     | (refine⟨rfl,[3,2],_,_,_,hbd,rfl,?_,?_,?_⟩;(focus ((repeat' first|exact trivial|exact rfl|exact .inl rfl|exact .inr ⟨rfl,rfl⟩|refine And.intro ?_ ?_);done));(focus ((repeat' first|exact trivial|exact rfl|exact .inl rfl|exact .inr ⟨rfl,rfl⟩|refine And.intro ?_ ?_);done)))
    conv=>whnf
    (focus ((repeat' first|exact trivial|exact rfl|exact .inl rfl|exact .inr ⟨rfl,rfl⟩|refine And.intro ?_ ?_);done))
def resG:Option Res→T
 | some r=>.tup [.v (.agg (cRes r)),.v (.int .i64 0)]
 | none=>.tup [.v (.agg (cRes res0)),.v (.int .i64 100)]
theorem ReadResult_fn(l:List Nd)(hl:l.length≤100000000∧kidLes 100000000 l)(hs:shortT l):Fn Tryz.prog (envX p) 29 [.v (.sl (l.map cN))] (resG (readR l)):=by
 have hc:=result_fn p l hl hs
 cases h:readR l <;> rw[h] at hc
 all_goals
  refine fn_prog tabOk mixed Tryz.f29 Tryz.func29 (by kernel_rfl) (by kernel_rfl) ?_
  conv=>whnf
  (refine st_call hc ?_ rfl rfl ?_;(focus ((repeat' first|exact trivial|exact rfl|exact .inl rfl|exact .inr ⟨rfl,rfl⟩|refine And.intro ?_ ?_);done));conv=>whnf)
  refine⟨none,by kernel_rfl,?_⟩;conv=>whnf
 ·(refine st_call (told_wrong_fn p resS) ?_ rfl rfl ?_;(focus ((repeat' first|exact trivial|exact rfl|exact .inl rfl|exact .inr ⟨rfl,rfl⟩|refine And.intro ?_ ?_);done));conv=>whnf)
  (focus ((repeat' first|exact trivial|exact rfl|exact .inl rfl|exact .inr ⟨rfl,rfl⟩|refine And.intro ?_ ?_);done))
 ·(refine st_call (told_nil_fn p) ?_ rfl rfl ?_;(focus ((repeat' first|exact trivial|exact rfl|exact .inl rfl|exact .inr ⟨rfl,rfl⟩|refine And.intro ?_ ?_);done));conv=>whnf)
  (focus ((repeat' first|exact trivial|exact rfl|exact .inl rfl|exact .inr ⟨rfl,rfl⟩|refine And.intro ?_ ?_);done))
end Go.Proofs.YtknelogmocedeaaGreatDoor.Pa
namespace Go.Proofs.YtknelogmocedeaaGreatDoor.Fi
open Go.RowKit Go.Shelf Go.Lib Fl
set_option linter.unusedVariables false
variable {X : En}
theorem texts_fn(a b:List ByteArray)(ha:a.length≤1000000000):Fn Tryz.prog X 66 [.v (.sl (a.map encS)),.v (.sl (b.map encS))] (.v (.bool (decide (a=b)))):=by
 refine fn_prog tabOk mixed Tryz.f66 Tryz.func66 (by kernel_rfl) (by kernel_rfl) ?_
 conv=>whnf
 refine⟨rfl,cmp_split (fun h=>?_) (fun h=>?_)⟩
 ·rw[List.length_map,List.length_map] at h
  conv=>whnf
  exact⟨.inl (congrArg V.bool (decide_eq_false (fun e=>h (by rw[e]))).symm),rfl⟩
 rw[List.length_map,List.length_map] at h
 have hab:a.length=b.length:=by omega
 conv=>whnf
 refine⟨Nat,fun i=>⟨26,[(0,.v (.sl (a.map encS))),(1,.v (.sl (b.map encS))),(5,.v (.int .i64 (i:Nat)))],[],[]⟩,fun i=>i≤a.length∧a.take i=b.take i,fun i=>a.length - i,⟨0,[],⟨by omega,by simp⟩,?_⟩,fun i ⟨hi,he⟩=>?_⟩
 ·(focus ((repeat' first|exact trivial|exact rfl|exact .inl rfl|exact .inr ⟨rfl,rfl⟩|refine And.intro ?_ ?_);done))
 conv=>whnf
 refine⟨rfl,cmp_split (fun h=>?_) (fun h=>?_)⟩
 ·rw[List.length_map] at h
  have hil:i < a.length:=by omega
  have hib:i < b.length:=by omega
  conv=>whnf
  refine⟨none,by kernel_rfl,?_⟩;conv=>whnf
  refine st_idx hil rfl ?_
  conv=>whnf
  refine st_idx hib rfl ?_
  conv=>whnf
  refine cmp_split (fun h2=>?_) (fun h2=>?_)
  ·conv=>whnf
   exact⟨.inl (congrArg V.bool (decide_eq_false (fun e=>h2 (by subst e;rfl))).symm),rfl⟩
  ·conv=>whnf
   refine⟨rfl,st_succ (by omega) ?_⟩
   conv=>whnf
   refine⟨i+1,[],⟨by omega,?_⟩,by dsimp only;omega,?_⟩
   ·rw[List.take_succ_eq_append_getElem hil,List.take_succ_eq_append_getElem hib,he,Classical.not_not.1 h2]
   ·(focus ((repeat' first|exact trivial|exact rfl|exact .inl rfl|exact .inr ⟨rfl,rfl⟩|refine And.intro ?_ ?_);done))
 ·rw[List.length_map] at h
  conv=>whnf
  rw[List.take_of_length_le (by omega),List.take_of_length_le (by omega)] at he
  exact⟨.inl (congrArg V.bool (decide_eq_true he).symm),rfl⟩
end Go.Proofs.YtknelogmocedeaaGreatDoor.Fi
namespace Go.Proofs.YtknelogmocedeaaGreatDoor.Pa
open Go.RowKit Go.Shelf Go.Lib Tl Pr
open Fl (bl bt' bl_bt bl_of size_bl)
open Fi (one_arg encS all_take_succ all_bad)
set_option linter.unusedVariables false
variable {X : En}
set_option maxHeartbeats 4000000 in
theorem refSame_one(x y:Nd)(hl:x.kids.length≤100000000)(hf:∀a∈x.kids,∀b∈y.kids,Fn Tryz.prog X 68 [.v (.agg (cM a)),.v (.agg (cM b))] (.v (.bool (sameN a b)))):Fn Tryz.prog X 68 [.v (.agg (cM x)),.v (.agg (cM y))] (.v (.bool (sameN x y))):=by
 have hs:sameN x y=(decide (x.tag=y.tag)&&(decide (x.data=y.data)&&sameNs x.kids y.kids)):=by cases x;cases y;rfl
 by_cases h1:x.tag=y.tag
 rotate_left
 ·rw[show decide (x.tag=y.tag)=false from decide_eq_false h1,Bool.false_and] at hs
  rw[hs]
  refine fn_prog tabOk mixed Tryz.f68 Tryz.func68 (by kernel_rfl) (by kernel_rfl) ?_
  conv=>whnf
  refine⟨rfl,cmp_true h1 ?_⟩
  conv=>whnf
  (focus ((repeat' first|exact trivial|exact rfl|exact .inl rfl|exact .inr ⟨rfl,rfl⟩|refine And.intro ?_ ?_);done))
 by_cases h2:x.data=y.data
 rotate_left
 ·rw[show decide (x.data=y.data)=false from decide_eq_false h2,Bool.false_and,Bool.and_false] at hs
  rw[hs]
  refine fn_prog tabOk mixed Tryz.f68 Tryz.func68 (by kernel_rfl) (by kernel_rfl) ?_
  conv=>whnf
  refine⟨rfl,cmp_false (fun e=>e h1) ?_⟩
  conv=>whnf
  refine cmp_true h2 ?_
  conv=>whnf
  (focus ((repeat' first|exact trivial|exact rfl|exact .inl rfl|exact .inr ⟨rfl,rfl⟩|refine And.intro ?_ ?_);done))
 rw[show decide (x.tag=y.tag)=true from decide_eq_true h1,show decide (x.data=y.data)=true from decide_eq_true h2,Bool.true_and,Bool.true_and] at hs
 rw[hs]
 clear hs
 refine fn_prog tabOk mixed Tryz.f68 Tryz.func68 (by kernel_rfl) (by kernel_rfl) ?_
 conv=>whnf
 refine⟨rfl,cmp_false (fun e=>e h1) ?_⟩
 conv=>whnf
 refine cmp_false (fun e=>e h2) ?_
 conv=>whnf
 generalize x.kids=l at*
 generalize y.kids=m at*
 refine⟨rfl,cmp_split (fun h=>?_) (fun h=>?_)⟩
 ·rw[List.length_map,List.length_map] at h
  conv=>whnf
  refine⟨.inl (congrArg V.bool ?_),rfl⟩
  cases hq:sameNs l m
  ·rfl
  ·exact absurd (by rw[sames_len l m hq]) h
 rw[List.length_map,List.length_map] at h
 have hab:l.length=m.length:=by omega
 conv=>whnf
 refine⟨Nat,fun i=>⟨46,[(2,.ptr 2 0),(3,.ptr 3 0),(5,.v (.int .i64 (i:Nat)))],[(2,[.v (.int .i64 x.tag),.v (.str x.data),.v (.sl (l.map cN))]),(3,[.v (.int .i64 y.tag),.v (.str y.data),.v (.sl (m.map cN))])],[]⟩,fun i=>i≤l.length∧∀j (h:j < i) (h1:j < l.length) (h2:j < m.length),sameN l[j] m[j]=true,fun i=>l.length - i,⟨0,[],⟨Nat.zero_le _,fun j h=>by omega⟩,?_⟩,fun i ⟨hi,he⟩=>?_⟩
 ·(focus ((repeat' first|exact trivial|exact rfl|exact .inl rfl|exact .inr ⟨rfl,rfl⟩|refine And.intro ?_ ?_);done))
 conv=>whnf
 refine⟨rfl,cmp_split (fun h=>?_) (fun h=>?_)⟩
 ·rw[List.length_map] at h
  have hil:i < l.length:=by omega
  have him:i < m.length:=by omega
  conv=>whnf
  refine⟨none,by kernel_rfl,?_⟩;conv=>whnf
  refine st_idxN hil ?_
  conv=>whnf
  refine st_idxN him ?_
  conv=>whnf
  refine st_callB (hf l[i] (List.getElem_mem hil) m[i] (List.getElem_mem him)) ⟨.inl rfl,.inl rfl,trivial⟩ rfl (fun h2=>?_) (fun h2=>?_)
  ·conv=>whnf
   refine⟨rfl,st_succ (by omega) ?_⟩
   conv=>whnf
   refine⟨i+1,[],⟨by omega,fun j hj h1 h3=>?_⟩,by dsimp only;omega,?_⟩
   ·by_cases e:j=i
    ·subst e;exact h2
    ·exact he j (by omega) h1 h3
   ·(focus ((repeat' first|exact trivial|exact rfl|exact .inl rfl|exact .inr ⟨rfl,rfl⟩|refine And.intro ?_ ?_);done))
  ·conv=>whnf
   exact⟨.inl (congrArg V.bool (sames_bad hil him h2).symm),rfl⟩
 ·rw[List.length_map] at h
  conv=>whnf
  refine⟨.inl (congrArg V.bool ?_),rfl⟩
  rcases sames_zip l m hab with h1 | ⟨j,h1,h2,h3⟩
  ·exact h1.symm
  ·rw[he j (by omega) h1 h2] at h3;cases h3
mutual
theorem refSame_fn:∀(x:Nd) (y:Nd),midN x→midN y→Fn Tryz.prog X 68 [.v (.agg (cM x)),.v (.agg (cM y))] (.v (.bool (sameN x y)))
 | .mk t d k,y,hx,hy=>by
  have hl:=refSame_fns k
  obtain⟨x1,x2⟩:=hx
  obtain⟨y1,y2⟩:=midN_at hy
  exact refSame_one (.mk t d k) y x1 (fun z hz u hu=>hl z hz u (midNs_mem x2 z hz) (midNs_mem y2 u hu))
theorem refSame_fns:∀(l:List Nd),∀z∈l,∀(y:Nd),midN z→midN y→Fn Tryz.prog X 68 [.v (.agg (cM z)),.v (.agg (cM y))] (.v (.bool (sameN z y)))
 | [],z,hz,_=>by cases hz
 | x::r,z,hz,y=>by
  intro h1 h2
  have hx:=refSame_fn x
  have hr:=refSame_fns r
  rcases List.mem_cons.1 hz with e | hz
  ·rw[e] at h1 ⊢;exact hx y h1 h2
  ·exact hr z hz y h1 h2
end
theorem trees_fn(l m:List Nd)(hl:l.length≤100000000)(h1:midNs l)(h2:midNs m):Fn Tryz.prog X 34 [.v (.sl (l.map cN)),.v (.sl (m.map cN))] (.v (.bool (sameNs l m))):=by
 refine fn_prog tabOk mixed Tryz.f34 Tryz.func34 (by kernel_rfl) (by kernel_rfl) ?_
 conv=>whnf
 refine⟨rfl,cmp_split (fun h=>?_) (fun h=>?_)⟩
 ·rw[List.length_map,List.length_map] at h
  conv=>whnf
  refine⟨.inl (congrArg V.bool ?_),rfl⟩
  cases hq:sameNs l m
  ·rfl
  ·exact absurd (by rw[sames_len l m hq]) h
 rw[List.length_map,List.length_map] at h
 have hab:l.length=m.length:=by omega
 conv=>whnf
 refine⟨Nat,fun i=>⟨27,[(0,.v (.sl (l.map cN))),(1,.v (.sl (m.map cN))),(5,.v (.int .i64 (i:Nat)))],[],[]⟩,fun i=>i≤l.length∧∀j (h:j < i) (h1:j < l.length) (h2:j < m.length),sameN l[j] m[j]=true,fun i=>l.length - i,⟨0,[],⟨Nat.zero_le _,fun j h=>by omega⟩,?_⟩,fun i ⟨hi,he⟩=>?_⟩
 ·(focus ((repeat' first|exact trivial|exact rfl|exact .inl rfl|exact .inr ⟨rfl,rfl⟩|refine And.intro ?_ ?_);done))
 conv=>whnf
 refine⟨rfl,cmp_split (fun h=>?_) (fun h=>?_)⟩
 ·rw[List.length_map] at h
  have hil:i < l.length:=by omega
  have him:i < m.length:=by omega
  conv=>whnf
  refine⟨none,by kernel_rfl,?_⟩;conv=>whnf
  refine st_idxN hil ?_
  conv=>whnf
  refine st_idxN him ?_
  conv=>whnf
  refine st_callB (refSame_fn l[i] m[i] (midNs_mem h1 _ (List.getElem_mem hil)) (midNs_mem h2 _ (List.getElem_mem him))) ⟨.inl rfl,.inl rfl,trivial⟩ rfl (fun h2=>?_) (fun h2=>?_)
  ·conv=>whnf
   refine⟨rfl,st_succ (by omega) ?_⟩
   conv=>whnf
   refine⟨i+1,[],⟨by omega,fun j hj h1 h3=>?_⟩,by dsimp only;omega,?_⟩
   ·by_cases e:j=i
    ·subst e;exact h2
    ·exact he j (by omega) h1 h3
   ·(focus ((repeat' first|exact trivial|exact rfl|exact .inl rfl|exact .inr ⟨rfl,rfl⟩|refine And.intro ?_ ?_);done))
  ·conv=>whnf
   exact⟨.inl (congrArg V.bool (sames_bad hil him h2).symm),rfl⟩
 ·rw[List.length_map] at h
  conv=>whnf
  refine⟨.inl (congrArg V.bool ?_),rfl⟩
  rcases sames_zip l m hab with h1 | ⟨j,h1,h2,h3⟩
  ·exact h1.symm
  ·rw[he j (by omega) h1 h2] at h3;cases h3
def sameA(a b:Att):Bool:=decide (a.name=b.name)&&decide (a.vals=b.vals)
theorem sameAttr_fn(a b:Att)(ha:a.vals.length≤1000000000):Fn Tryz.prog X 30 [.v (.agg (cAtt a)),.v (.agg (cAtt b))] (.v (.bool (sameA a b))):=by
 have ht:=Fi.texts_fn (X:=X) a.vals b.vals ha
 unfold sameA
 by_cases h:a.name=b.name
 ·rw[show decide (a.name=b.name)=true from decide_eq_true h,Bool.true_and]
  refine fn_prog tabOk mixed Tryz.f30 Tryz.func30 (by kernel_rfl) (by kernel_rfl) ?_
  conv=>whnf
  refine cmp_true h ?_
  conv=>whnf
  (refine st_call ht ?_ rfl rfl ?_;(focus ((repeat' first|exact trivial|exact rfl|exact .inl rfl|exact .inr ⟨rfl,rfl⟩|refine And.intro ?_ ?_);done));conv=>whnf)
  (focus ((repeat' first|exact trivial|exact rfl|exact .inl rfl|exact .inr ⟨rfl,rfl⟩|refine And.intro ?_ ?_);done))
 ·rw[show decide (a.name=b.name)=false from decide_eq_false h,Bool.false_and]
  refine fn_prog tabOk mixed Tryz.f30 Tryz.func30 (by kernel_rfl) (by kernel_rfl) ?_
  conv=>whnf
  refine cmp_false h ?_
  conv=>whnf
  (focus ((repeat' first|exact trivial|exact rfl|exact .inl rfl|exact .inr ⟨rfl,rfl⟩|refine And.intro ?_ ?_);done))
def sameR(a b:Res):Bool:=decide (a.code=b.code)&&(decide (a.dn=b.dn)&&(decide (a.text=b.text)&&decide (a.refs=b.refs)))
theorem sameResult_fn(a b:Res)(ha:a.refs.length≤1000000000):Fn Tryz.prog X 31 [.v (.agg (cRes a)),.v (.agg (cRes b))] (.v (.bool (sameR a b))):=by
 have ht:=Fi.texts_fn (X:=X) a.refs b.refs ha
 unfold sameR
 by_cases h1:a.code=b.code <;> by_cases h2:a.dn=b.dn <;> by_cases h3:a.text=b.text
 all_goals
  simp only[h1,h2,h3,decide_true,decide_false,Bool.true_and,Bool.false_and]
  refine fn_prog tabOk mixed Tryz.f31 Tryz.func31 (by kernel_rfl) (by kernel_rfl) ?_
  conv=>whnf
  (repeat' (first | ((refine⟨rfl,cmp_true h1 ?_⟩) <;> (conv=>whnf)) | ((refine⟨rfl,cmp_false h1 ?_⟩) <;> (conv=>whnf)) | ((refine cmp_true h2 ?_) <;> (conv=>whnf)) | ((refine cmp_false h2 ?_) <;> (conv=>whnf)) | ((refine cmp_true h3 ?_) <;> (conv=>whnf)) | ((refine cmp_false h3 ?_) <;> (conv=>whnf)) | (((with_reducible apply st_call (ht));(focus ((repeat' first|exact trivial|exact rfl|exact .inl rfl|exact .inr ⟨rfl,rfl⟩|refine And.intro ?_ ?_);done));(focus (exact rfl));(focus (exact rfl))) <;> (conv=>whnf)) | fail))
  (focus ((repeat' first|exact trivial|exact rfl|exact .inl rfl|exact .inr ⟨rfl,rfl⟩|refine And.intro ?_ ?_);done))
end Go.Proofs.YtknelogmocedeaaGreatDoor.Pa
namespace Go.Proofs.YtknelogmocedeaaGreatDoor.Tl
open Go.RowKit Go.Shelf Go.Lib
open Fl (bl bt' bl_bt bl_of size_bl)
set_option linter.unusedVariables false
variable {X : En}
def cut4(s:ByteArray):ByteArray:=s.extract 0 (min s.size 4000)
def cutT:Nat→Nd→Nd
 | 0,.mk t x _=>.mk t (cut4 x) []
 | d+1,.mk t x k=>.mk t (cut4 x) ((k.take 60).map (cutT d))
def cutsT:Nat→Nd→List Nd
 | 0,_=>[]
 | d+1,n=>(n.kids.take 60).map (cutT d)
theorem cutT_eq:∀(d:Nat) (n:Nd),cutT d n=.mk n.tag (cut4 n.data) (cutsT d n)
 | 0,.mk t x _=>rfl
 | d+1,.mk t x k=>rfl
set_option maxHeartbeats 4000000 in
theorem cutAt_one(d:Nat)(n:Nd)(hd:d≤100)(hrec:∀e,d=e+1→∀x:Nd,Fn Tryz.prog X 67 [.v (.agg (cM x)),.v (.int .i64 ((e+1:Nat):Int))] (.v (.agg (cM (cutT e x))))):Fn Tryz.prog X 67 [.v (.agg (cM n)),.v (.int .i64 ((d+1:Nat):Int))] (.v (.agg (cM (cutT d n)))):=by
 refine fn_prog tabOk mixed Tryz.f67 Tryz.func67 (by kernel_rfl) (by kernel_rfl) ?_
 conv=>whnf
 refine⟨none,by kernel_rfl,?_⟩;conv=>whnf
 refine st_min 4000 ?_
 conv=>whnf
 refine st_cut 0 (min n.data.size 4000) rfl rfl (by omega) (by omega) ?_
 conv=>whnf
 refine⟨Nat,fun j=>⟨46,[(1,.v (.int .i64 ((d+1:Nat):Int))),(2,.ptr 2 0),(4,.ptr 4 0),(5,.ptr 5 0),(6,.v (.int .i64 (j:Nat)))],[(2,(cM n).map .v),(4,[.v (.int .i64 0),.v (.str (bt' [])),.v .nils]),(5,[.v (.int .i64 n.tag),.v (.str (cut4 n.data)),.own 43 29 ((n.kids.take j).map fun x=>cM (cutT (d - 1) x))])],[(43,some 29)]⟩,fun j=>j≤n.kids.length∧j≤60∧(d=0→j=0),fun j=>n.kids.length - j,⟨0,[(43,none)],⟨by omega,by omega,fun _=>rfl⟩,?_⟩,fun j ⟨hj,hj10,hd0⟩=>?_⟩
 ·(focus ((repeat' first|exact trivial|exact rfl|exact .inl rfl|exact .inr ⟨rfl,rfl⟩|refine And.intro ?_ ?_);done))
 conv=>whnf
 refine⟨rfl,cmp_split (fun h=>?_) (fun h=>?_)⟩
 have hjl:j < n.kids.length:=by rw[List.length_map] at h;omega
 conv=>whnf
 refine⟨rfl,cmp_split (fun h2=>?_) (fun h2=>?_)⟩
 conv=>whnf
 refine⟨rfl,cmp_split (fun h3=>?_) (fun h3=>?_)⟩
 ·conv=>whnf
  refine⟨none,by kernel_rfl,?_⟩;conv=>whnf
  refine st_idxN hjl ?_
  conv=>whnf
  obtain⟨e,rfl⟩:∃e,d=e+1:=⟨d - 1,by omega⟩
  refine st_minus (e+1+1) 1 (by omega) (by omega) ?_
  conv=>whnf
  (refine st_call (hrec e rfl n.kids[j]) ?_ rfl rfl ?_;(focus ((repeat' first|exact trivial|exact rfl|exact .inl rfl|exact .inr ⟨rfl,rfl⟩|refine And.intro ?_ ?_);done));conv=>whnf)
  refine st_app (by simp;omega) (by simp[V.cells]) (map_take_succ (enc:=fun x=>cM (cutT e x)) hjl) ?_
  conv=>whnf
  refine⟨rfl,st_succ (by omega) ?_⟩
  conv=>whnf
  refine⟨j+1,[(43,some 43)],⟨by omega,by omega,fun h=>by omega⟩,by dsimp only;omega,?_⟩
  (focus ((repeat' first|exact trivial|exact rfl|exact .inl rfl|exact .inr ⟨rfl,rfl⟩|refine And.intro ?_ ?_);done))
 all_goals
  have hl:((n.kids.take j).map fun x=>cM (cutT (d - 1) x))=(cutsT d n).map cN:=by
   rw[List.length_map] at h
   cases d with
   | zero=>rw[hd0 rfl];rfl
   | succ e=>
    show _=((n.kids.take 60).map (cutT e)).map cN
    rw[List.map_map,show n.kids.take j=n.kids.take 60 by
     by_cases h10:n.kids.length≤j
     ·rw[List.take_of_length_le h10,List.take_of_length_le (by omega)]
     ·rw[show j=60 by omega]]
    exact List.map_congr_left fun x _=>(cM_eq _).symm
  conv=>whnf
  rw[hl,cutT_eq]
  exact⟨.inl rfl,rfl⟩
theorem cutAt_fn:∀(d:Nat),d≤100→∀n:Nd,Fn Tryz.prog X 67 [.v (.agg (cM n)),.v (.int .i64 ((d+1:Nat):Int))] (.v (.agg (cM (cutT d n))))
 | 0,hd,n=>cutAt_one 0 n hd (fun e h=>by cases h)
 | d+1,hd,n=>cutAt_one (d+1) n hd (fun e h x=>by
   obtain rfl:d=e:=by omega
   exact cutAt_fn d (by omega) x)
def CutT(n:Nd):Nd:=cutT 12 n
theorem CutT_fn(n:Nd):Fn Tryz.prog X 32 [.v (.agg (cM n))] (.v (.agg (cM (CutT n)))):=by
 refine fn_prog tabOk mixed Tryz.f32 Tryz.func32 (by kernel_rfl) (by kernel_rfl) ?_
 conv=>whnf
 (refine st_call (cutAt_fn 12 (by omega) n) ?_ rfl rfl ?_;(focus ((repeat' first|exact trivial|exact rfl|exact .inl rfl|exact .inr ⟨rfl,rfl⟩|refine And.intro ?_ ?_);done));conv=>whnf)
 exact⟨.inl rfl,rfl⟩
theorem cut4_size(s:ByteArray):(cut4 s).size≤4000:=by unfold cut4;rw[ByteArray.size_extract];omega
theorem cut_short:∀(d:Nat) (n:Nd),(cutT d n).data.size≤4000
 | 0,.mk t x _=>cut4_size x
 | d+1,.mk t x k=>cut4_size x
end Go.Proofs.YtknelogmocedeaaGreatDoor.Tl
namespace Go.Proofs.YtknelogmocedeaaGreatDoor.Pa
open Go.RowKit Go.Shelf Go.Lib Tl Pr
open Fl (bl bt' bl_bt bl_of size_bl)
open Fi (one_arg encS all_take_succ all_bad)
set_option linter.unusedVariables false
variable {X : En}
def cutB(n:Nat)(s:ByteArray):ByteArray:=s.extract 0 (min s.size n)
theorem cutB_size(n:Nat)(s:ByteArray):(cutB n s).size≤n:=by unfold cutB;rw[ByteArray.size_extract];omega
theorem cut_fn(s:ByteArray)(n:Nat):Fn Tryz.prog X 15 [.v (.str s),.v (.int .i64 (n:Nat))] (.v (.str (cutB n s))):=by
 refine fn_prog tabOk mixed Tryz.f15 Tryz.func15 (by kernel_rfl) (by kernel_rfl) ?_
 conv=>whnf
 refine st_min n ?_
 conv=>whnf
 refine st_cut 0 (min s.size n) rfl rfl (by omega) (by omega) ?_
 conv=>whnf
 (focus ((repeat' first|exact trivial|exact rfl|exact .inl rfl|exact .inr ⟨rfl,rfl⟩|refine And.intro ?_ ?_);done))
def cutS(l:List ByteArray):List ByteArray:=(l.take 8).map (cutB 201)
theorem texts8_fn(l:List ByteArray):Fn Tryz.prog X 43 [.v (.sl (l.map encS))] (.v (.sl ((cutS l).map encS))):=by
 refine fn_prog tabOk mixed Tryz.f43 Tryz.func43 (by kernel_rfl) (by kernel_rfl) ?_
 conv=>whnf
 refine⟨Nat,fun i=>⟨24,[(0,.v (.sl (l.map encS))),(3,.own 22 9 (((l.take i).map (cutB 201)).map encS)),(4,.v (.int .i64 (i:Nat)))],[],[(22,some 9)]⟩,fun i=>i≤l.length∧i≤8,fun i=>8 - i,⟨0,[(22,none)],⟨Nat.zero_le _,by omega⟩,?_⟩,fun i ⟨hi,h8⟩=>?_⟩
 ·(focus ((repeat' first|exact trivial|exact rfl|exact .inl rfl|exact .inr ⟨rfl,rfl⟩|refine And.intro ?_ ?_);done))
 conv=>whnf
 refine⟨rfl,cmp_split (fun h=>?_) (fun h=>?_)⟩
 ·rw[List.length_map] at h
  have hil:i < l.length:=by omega
  conv=>whnf
  refine⟨rfl,cmp_split (fun h2=>?_) (fun h2=>?_)⟩
  ·conv=>whnf
   refine st_idx hil rfl ?_
   conv=>whnf
   (refine st_call (cut_fn l[i] 201) ?_ rfl rfl ?_;(focus ((repeat' first|exact trivial|exact rfl|exact .inl rfl|exact .inr ⟨rfl,rfl⟩|refine And.intro ?_ ?_);done));conv=>whnf)
   refine st_app (by simp;omega) (by intro c hc;simp at hc;rw[hc];rfl) (show(((l.take i).map (cutB 201)).map encS)++[encS (cutB 201 l[i])]=((l.take (i+1)).map (cutB 201)).map encS from by rw[List.take_succ_eq_append_getElem hil,List.map_append,List.map_append];rfl) ?_
   conv=>whnf
   refine⟨rfl,st_succ (by omega) ?_⟩
   conv=>whnf
   refine⟨i+1,[(22,some 22)],⟨hil,by omega⟩,by dsimp only;omega,?_⟩
   (focus ((repeat' first|exact trivial|exact rfl|exact .inl rfl|exact .inr ⟨rfl,rfl⟩|refine And.intro ?_ ?_);done))
  ·conv=>whnf
   rw[show l.take i=l.take 8 by rw[show i=8 by omega]]
   (focus ((repeat' first|exact trivial|exact rfl|exact .inl rfl|exact .inr ⟨rfl,rfl⟩|refine And.intro ?_ ?_);done))
 ·rw[List.length_map] at h
  conv=>whnf
  rw[show l.take i=l.take 8 by rw[List.take_of_length_le (by omega),List.take_of_length_le (by omega)]]
  (focus ((repeat' first|exact trivial|exact rfl|exact .inl rfl|exact .inr ⟨rfl,rfl⟩|refine And.intro ?_ ?_);done))
def CutC(c:Ctl):Ctl:=⟨cutB 40 c.oid,c.crit,cutB 201 c.val,c.has⟩
theorem CutC_fn(c:Ctl):Fn Tryz.prog X 20 [.v (.agg (cCtl c))] (.v (.agg (cCtl (CutC c)))):=by
 refine fn_prog tabOk mixed Tryz.f20 Tryz.func20 (by kernel_rfl) (by kernel_rfl) ?_
 conv=>whnf
 (refine st_call (cut_fn c.oid 40) ?_ rfl rfl ?_;(focus ((repeat' first|exact trivial|exact rfl|exact .inl rfl|exact .inr ⟨rfl,rfl⟩|refine And.intro ?_ ?_);done));conv=>whnf)
 (refine st_call (cut_fn c.val 201) ?_ rfl rfl ?_;(focus ((repeat' first|exact trivial|exact rfl|exact .inl rfl|exact .inr ⟨rfl,rfl⟩|refine And.intro ?_ ?_);done));conv=>whnf)
 (focus ((repeat' first|exact trivial|exact rfl|exact .inl rfl|exact .inr ⟨rfl,rfl⟩|refine And.intro ?_ ?_);done))
def CutA(a:Att):Att:=⟨cutB 61 a.name,cutS a.vals⟩
theorem CutA_fn(a:Att):Fn Tryz.prog X 12 [.v (.agg (cAtt a))] (.v (.agg (cAtt (CutA a)))):=by
 refine fn_prog tabOk mixed Tryz.f12 Tryz.func12 (by kernel_rfl) (by kernel_rfl) ?_
 conv=>whnf
 refine⟨some [0,1,3,4,2,5,6,7],by kernel_rfl,?_⟩;conv=>whnf
 (refine st_call (cut_fn a.name 61) ?_ rfl rfl ?_;(focus ((repeat' first|exact trivial|exact rfl|exact .inl rfl|exact .inr ⟨rfl,rfl⟩|refine And.intro ?_ ?_);done));conv=>whnf)
 (refine st_call (texts8_fn a.vals) ?_ rfl rfl ?_;(focus ((repeat' first|exact trivial|exact rfl|exact .inl rfl|exact .inr ⟨rfl,rfl⟩|refine And.intro ?_ ?_);done));conv=>whnf)
 (focus ((repeat' first|exact trivial|exact rfl|exact .inl rfl|exact .inr ⟨rfl,rfl⟩|refine And.intro ?_ ?_);done))
def CutH(c:Chg):Chg:=⟨c.kind,CutA c.att⟩
theorem CutH_fn(c:Chg):Fn Tryz.prog X 23 [.v (.agg (cChg c))] (.v (.agg (cChg (CutH c)))):=by
 refine fn_prog tabOk mixed Tryz.f23 Tryz.func23 (by kernel_rfl) (by kernel_rfl) ?_
 conv=>whnf
 refine⟨none,by kernel_rfl,?_⟩;conv=>whnf
 (refine st_call (CutA_fn c.att) ?_ rfl rfl ?_;(focus ((repeat' first|exact trivial|exact rfl|exact .inl rfl|exact .inr ⟨rfl,rfl⟩|refine And.intro ?_ ?_);done));conv=>whnf)
 (focus ((repeat' first|exact trivial|exact rfl|exact .inl rfl|exact .inr ⟨rfl,rfl⟩|refine And.intro ?_ ?_);done))
def CutR(r:Res):Res:=⟨r.code,cutB 201 r.dn,cutB 61 r.text,cutS r.refs⟩
theorem CutR_fn(r:Res):Fn Tryz.prog X 24 [.v (.agg (cRes r))] (.v (.agg (cRes (CutR r)))):=by
 refine fn_prog tabOk mixed Tryz.f24 Tryz.func24 (by kernel_rfl) (by kernel_rfl) ?_
 conv=>whnf
 refine⟨some [0,1,2,3,5,6,8,9,4,7,10,11,12],by kernel_rfl,?_⟩;conv=>whnf
 (refine st_call (cut_fn r.dn 201) ?_ rfl rfl ?_;(focus ((repeat' first|exact trivial|exact rfl|exact .inl rfl|exact .inr ⟨rfl,rfl⟩|refine And.intro ?_ ?_);done));conv=>whnf)
 (refine st_call (cut_fn r.text 61) ?_ rfl rfl ?_;(focus ((repeat' first|exact trivial|exact rfl|exact .inl rfl|exact .inr ⟨rfl,rfl⟩|refine And.intro ?_ ?_);done));conv=>whnf)
 (refine st_call (texts8_fn r.refs) ?_ rfl rfl ?_;(focus ((repeat' first|exact trivial|exact rfl|exact .inl rfl|exact .inr ⟨rfl,rfl⟩|refine And.intro ?_ ?_);done));conv=>whnf)
 (focus ((repeat' first|exact trivial|exact rfl|exact .inl rfl|exact .inr ⟨rfl,rfl⟩|refine And.intro ?_ ?_);done))
theorem cutS_len(l:List ByteArray):(cutS l).length≤8:=by unfold cutS;simp;omega
theorem cutS_size(l:List ByteArray):∀s∈cutS l,s.size≤201:=fun s hs=>by
 obtain⟨x,_,rfl⟩:=List.mem_map.1 hs
 exact cutB_size _ _
theorem CutA_mid(a:Att):midA (CutA a):=⟨by have:=cutB_size 61 a.name;show(cutB 61 a.name).size≤_;omega,by have:=cutS_len a.vals;show(cutS a.vals).length≤_;omega⟩
theorem CutR_mid(r:Res):midR (CutR r):=⟨by have:=cutB_size 201 r.dn;show(cutB 201 r.dn).size≤_;omega,by have:=cutB_size 61 r.text;show(cutB 61 r.text).size≤_;omega,by have:=cutS_len r.refs;show(cutS r.refs).length≤_;omega,fun s hs=>by have:=cutS_size r.refs s hs;omega⟩
def cutAllT(l:List Nd):List Nd:=(l.take 6).map CutT
theorem cutAll_fn(l:List Nd):Fn Tryz.prog X 33 [.v (.sl (l.map cN))] (.v (.sl ((cutAllT l).map cN))):=by
 refine fn_prog tabOk mixed Tryz.f33 Tryz.func33 (by kernel_rfl) (by kernel_rfl) ?_
 conv=>whnf
 refine⟨Nat,fun i=>⟨24,[(0,.v (.sl (l.map cN))),(3,.own 22 29 (((l.take i).map CutT).map cN)),(4,.v (.int .i64 (i:Nat)))],[],[(22,some 29)]⟩,fun i=>i≤l.length∧i≤6,fun i=>6 - i,⟨0,[(22,none)],⟨Nat.zero_le _,by omega⟩,?_⟩,fun i ⟨hi,h8⟩=>?_⟩
 ·(focus ((repeat' first|exact trivial|exact rfl|exact .inl rfl|exact .inr ⟨rfl,rfl⟩|refine And.intro ?_ ?_);done))
 conv=>whnf
 refine⟨rfl,cmp_split (fun h=>?_) (fun h=>?_)⟩
 ·rw[List.length_map] at h
  have hil:i < l.length:=by omega
  conv=>whnf
  refine⟨rfl,cmp_split (fun h2=>?_) (fun h2=>?_)⟩
  ·conv=>whnf
   refine st_idxN hil ?_
   conv=>whnf
   (refine st_call (CutT_fn l[i]) ?_ rfl rfl ?_;(focus ((repeat' first|exact trivial|exact rfl|exact .inl rfl|exact .inr ⟨rfl,rfl⟩|refine And.intro ?_ ?_);done));conv=>whnf)
   refine st_app (by simp;omega) (by intro c hc;simp at hc;rw[hc];rfl) (show(((l.take i).map CutT).map cN)++[cM (CutT l[i])]=((l.take (i+1)).map CutT).map cN from by rw[List.take_succ_eq_append_getElem hil,←cM_eq,List.map_append,List.map_append];rfl) ?_
   conv=>whnf
   refine⟨rfl,st_succ (by omega) ?_⟩
   conv=>whnf
   refine⟨i+1,[(22,some 22)],⟨hil,by omega⟩,by dsimp only;omega,?_⟩
   (focus ((repeat' first|exact trivial|exact rfl|exact .inl rfl|exact .inr ⟨rfl,rfl⟩|refine And.intro ?_ ?_);done))
  ·conv=>whnf
   rw[show l.take i=l.take 6 by rw[show i=6 by omega]]
   (focus ((repeat' first|exact trivial|exact rfl|exact .inl rfl|exact .inr ⟨rfl,rfl⟩|refine And.intro ?_ ?_);done))
 ·rw[List.length_map] at h
  conv=>whnf
  rw[show l.take i=l.take 6 by rw[List.take_of_length_le (by omega),List.take_of_length_le (by omega)]]
  (focus ((repeat' first|exact trivial|exact rfl|exact .inl rfl|exact .inr ⟨rfl,rfl⟩|refine And.intro ?_ ?_);done))
theorem CutT_lim(n:Nd):limN (CutT n):=by
 have up:∀(d:Nat) (n:Nd),limN (cutT d n):=by
  intro d
  induction d with
  | zero=>intro n;cases n;exact⟨Nat.le_trans (cut4_size _) (by decide),Nat.zero_le _,trivial⟩
  | succ d ih=>
   intro n
   cases n with
   | mk t x k=>
    refine⟨Nat.le_trans (cut4_size x) (by decide),by rw[List.length_map,List.length_take];omega,?_⟩
    generalize k.take 60=m
    induction m with
    | nil=>trivial
    | cons y r ihr=>exact⟨ih y,ihr⟩
 exact up 12 n
theorem cutAll_lim(l:List Nd):((cutAllT l).length≤100000000∧kidLes 100000000 (cutAllT l))∧shortT (cutAllT l):=by
 unfold cutAllT
 refine⟨⟨by rw[List.length_map,List.length_take];omega,?_⟩,fun x hx=>?_⟩
 ·generalize l.take 6=m
  induction m with
  | nil=>trivial
  | cons y r ihr=>exact⟨CutT_lim y,ihr⟩
 ·obtain⟨y,_,rfl⟩:=List.mem_map.1 hx
  exact Nat.le_trans (cut_short 12 y) (by decide)
end Go.Proofs.YtknelogmocedeaaGreatDoor.Pa
