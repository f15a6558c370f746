/- Several texts, one behind the other. part, walked: results. Conditions: at most 10^8 in one tree, texts of at most 10^6 bytes. Plain: filters, the same filters, all filters in one. No program. Messages, plain: their parts, the same messages, an empty one. No program. filt: how filters stand. No conditions. latinerlaw08.Cut, walked: a filter cut to eight deep, of each one's lists the first ten, texts at sixty-one bytes. No conditions. latinerref08.Texts, walked: are two lists of texts the same? Conditions: at most 10^9 in one. -/
import Derived.Test.YtknelogmocedeaaGreatDoorR28
import Derived.Test.YtknelogmocedeaaGreatDoorR01
import Derived.Test.YtknelogmocedeaaGreatDoorR23
import Derived.Test.YtknelogmocedeaaGreatDoorR25
namespace Go.Proofs.YtknelogmocedeaaGreatDoor.Pa
open Go.RowKit Go.Shelf Go.Lib Tl Pr
open Fl (bl bt' bl_bt bl_of size_bl)
open Fi (one_arg encS all_take_succ all_bad)
set_option linter.unusedVariables false
variable {X : En} (p : Nat → Addr)
theorem utf_fn(s:ByteArray)(hs:s.size≤1000000000):Fn Tryz.prog (envX p) 104 [.v (.str s)] (.v (.bool (Utf.utfB s))):=
 Fn.of_plain (enter_of (by kernel_rfl)) rfl fun w L vs hE ha=>by
  obtain⟨v,rfl,h⟩:=one_arg ha
  rw[show v=.string s from h]
  exact Utf.right_calls s hs w hE.ut
def refB(s:ByteArray):Bool:=decide (s.size≠0)&&Utf.utfB s
theorem refs_fn(l:List ByteArray)(hl:l.length≤100000000)(hs:∀s∈l,s.size≤1000000000):Fn Tryz.prog (envX p) 105 [.v (.sl (l.map encS))] (.v (.bool (refsB l))):=by
 have hh:=short_fn (X:=envX p) 60 l (by omega)
 have hr:refsB l=(l.all refB&&(decide (l.length≤3)&&allSz 60 l)):=rfl
 refine fn_prog tabOk mixed Tryz.f105 Tryz.func105 (by kernel_rfl) (by kernel_rfl) ?_
 conv=>whnf
 refine⟨Nat,fun i=>⟨26,[(0,.v (.sl (l.map encS))),(5,.v (.sl (l.map encS))),(6,.v (.int .i64 ((l.map encS).length:Nat))),(7,.v (.int .i64 (i:Nat)))],[],[]⟩,fun i=>i≤l.length∧(l.take i).all refB=true,fun i=>l.length - i,⟨0,[],⟨by omega,rfl⟩,?_⟩,fun i ⟨hi,ha⟩=>?_⟩
 ·(focus ((repeat' first|exact trivial|exact rfl|exact .inl rfl|exact .inr ⟨rfl,rfl⟩|refine And.intro ?_ ?_);done))
 conv=>whnf
 refine⟨rfl,cmp_split (fun h=>?_) (fun h=>?_)⟩
 ·rw [List.length_map] at h
  have hil:i < l.length:=by omega
  have hbad:refB l[i]=false→refsB l=false:=fun e=>by rw[hr,all_bad hil e,Bool.false_and]
  conv=>whnf
  refine st_idx hil rfl ?_
  conv=>whnf
  refine cmp_split (fun h2=>?_) (fun h2=>?_)
  ·conv=>whnf
   rw[hbad (by unfold refB;rw[show decide (l[i].size≠0)=false from decide_eq_false (fun e=>e (Fi.size0.2 h2)),Bool.false_and])]
   (focus ((repeat' first|exact trivial|exact rfl|exact .inl rfl|exact .inr ⟨rfl,rfl⟩|refine And.intro ?_ ?_);done))
  ·conv=>whnf
   refine st_callB (utf_fn p l[i] (hs _ (List.getElem_mem hil))) ⟨.inl rfl,trivial⟩ rfl (fun h3=>?_) (fun h3=>?_)
   ·conv=>whnf
    refine⟨rfl,st_succ (by omega) ?_⟩
    conv=>whnf
    refine⟨i+1,[],⟨hil,?_⟩,by dsimp only;omega,?_⟩
    ·rw[all_take_succ _ _ _ hil,ha,Bool.true_and]
     unfold refB
     rw[h3,show decide (l[i].size≠0)=true from decide_eq_true (fun e=>h2 (Fi.size0.1 e))]
     rfl
    ·(focus ((repeat' first|exact trivial|exact rfl|exact .inl rfl|exact .inr ⟨rfl,rfl⟩|refine And.intro ?_ ?_);done))
   ·conv=>whnf
    rw[hbad (by unfold refB;rw[h3,Bool.and_false])]
    (focus ((repeat' first|exact trivial|exact rfl|exact .inl rfl|exact .inr ⟨rfl,rfl⟩|refine And.intro ?_ ?_);done))
 ·rw[List.length_map] at h
  rw[List.take_of_length_le (by omega)] at ha
  rw[ha,Bool.true_and] at hr
  conv=>whnf
  refine⟨rfl,cmp_split (fun h2=>?_) (fun h2=>?_)⟩
  ·rw[List.length_map] at h2
   rw[show decide (l.length≤3)=true from decide_eq_true (by omega),Bool.true_and] at hr
   conv=>whnf
   (refine st_call hh ?_ rfl rfl ?_;(focus ((repeat' first|exact trivial|exact rfl|exact .inl rfl|exact .inr ⟨rfl,rfl⟩|refine And.intro ?_ ?_);done));conv=>whnf)
   rw[hr]
   (focus ((repeat' first|exact trivial|exact rfl|exact .inl rfl|exact .inr ⟨rfl,rfl⟩|refine And.intro ?_ ?_);done))
  ·rw[List.length_map] at h2
   rw[show decide (l.length≤3)=false from decide_eq_false (by omega),Bool.false_and] at hr
   conv=>whnf
   rw[hr]
   (focus ((repeat' first|exact trivial|exact rfl|exact .inl rfl|exact .inr ⟨rfl,rfl⟩|refine And.intro ?_ ?_);done))
def cRes(r:Res):List V:=[.int .i64 r.code,.str r.dn,.str r.text,.sl (r.refs.map encS)]
def resS:ByteArray:=⟨#[114,101,115,117,108,116]⟩
structure midR(r:Res):Prop where
 dn:r.dn.size≤1000000
 text:r.text.size≤1000000000
 refs:r.refs.length≤100000000∧∀s∈r.refs,s.size≤1000000000
theorem check_res(r:Res)(hm:midR r):Fn Tryz.prog (envX p) 64 [.v (.agg (cRes r))] (.v (errU resS (resB r))):=by
 have hd:=dn_fn p r.dn hm.dn
 have ht:=utf_fn p r.text hm.text
 have hs:=short_fn (X:=envX p) 60 [r.text] (by simp)
 have hr:=refs_fn p r.refs hm.refs.1 hm.refs.2
 have hu:=unless_fn (X:=envX p) resS [decide (0≤r.code),decide (r.code≤200),dnB r.dn,Utf.utfB r.text,allSz 60 [r.text],refsB r.refs,decide (decide (r.code=10)=decide (0 < (((r.refs.map encS).length:Nat):Int)))] (by simp)
 have he:[decide (0≤r.code),decide (r.code≤200),dnB r.dn,Utf.utfB r.text,allSz 60 [r.text],refsB r.refs,decide (decide (r.code=10)=decide (0 < (((r.refs.map encS).length:Nat):Int)))].all id=resB r:=by
  unfold resB
  rw[List.length_map,show decide (decide (r.code=10)=decide (0 < ((r.refs.length:Nat):Int)))=decide (r.code=10↔0 < r.refs.length) from decide_eq_decide.2 (by rw[decide_eq_decide];exact⟨fun h=>h.trans (by omega),fun h=>h.trans (by omega)⟩)]
  simp only[List.all_cons,List.all_nil,id,Bool.and_true,allSz]
 rw[he] at hu
 cases hB:resB r <;> rw[hB] at hu
 all_goals
  refine fn_prog tabOk mixed Tryz.f64 Tryz.func64 (by kernel_rfl) (by kernel_rfl) ?_
  conv=>whnf
  (refine⟨some [9999],by kernel_rfl,⟨(.one 0 (.one 1 (.one 2 (.one 3 (.one 4 (.one 5 (.one 6 (.one 7 (.one 9 (.one 10 (.one 12 (.one 13 (.one 16 (.one 17 (.one 19 (.one 20 (.one 21 (.one 22 (.one 23 (.one 24 (.one 25 (.one 26 (.or (.one 8 (.or (.one 11 (.one 14 (.one 15 (.one 18 (.one 27 (.one 28 (.one 29 .nil))))))) (.one 14 (.one 11 (.one 15 (.one 18 (.one 27 (.one 28 (.one 29 .nil))))))))) (.one 14 (.one 8 (.one 11 (.one 15 (.one 18 (.one 27 (.one 28 (.one 29 .nil))))))))))))))))))))))))))))))),by kernel_rfl,?_,?_,?_⟩⟩;rotate_left;(focus ((conv=>whnf);(repeat' (first | (((with_reducible apply st_call (hd));(focus ((repeat' first|exact trivial|exact rfl|exact .inl rfl|exact .inr ⟨rfl,rfl⟩|refine And.intro ?_ ?_);done));(focus (exact rfl));(focus (exact rfl))) <;> (conv=>whnf)) | (((with_reducible apply st_call (ht));(focus ((repeat' first|exact trivial|exact rfl|exact .inl rfl|exact .inr ⟨rfl,rfl⟩|refine And.intro ?_ ?_);done));(focus (exact rfl));(focus (exact rfl))) <;> (conv=>whnf)) | (((with_reducible apply st_call (hs));(focus ((repeat' first|exact trivial|exact rfl|exact .inl rfl|exact .inr ⟨rfl,rfl⟩|refine And.intro ?_ ?_);done));(focus (exact rfl));(focus (exact rfl))) <;> (conv=>whnf)) | (((with_reducible apply st_call (hr));(focus ((repeat' first|exact trivial|exact rfl|exact .inl rfl|exact .inr ⟨rfl,rfl⟩|refine And.intro ?_ ?_);done));(focus (exact rfl));(focus (exact rfl))) <;> (conv=>whnf)) | (((with_reducible apply st_call (hu));(focus ((repeat' first|exact trivial|exact rfl|exact .inl rfl|exact .inr ⟨rfl,rfl⟩|refine And.intro ?_ ?_);done));(focus (exact rfl));(focus (exact rfl))) <;> (conv=>whnf)) | ((refine⟨rfl,cmp_bool ?_⟩) <;> (conv=>whnf)) | ((refine cmp_bool ?_) <;> (conv=>whnf)) | ((refine And.intro ?_ ?_) <;> (conv=>whnf)) | (exact St.le_refl _) | (refine⟨rfl,?_,?_,?_⟩ <;> (repeat' (first | exact trivial | (refine⟨rfl,?_⟩)));done) | fail)))));conv=>whnf
  (focus ((repeat' first|exact trivial|exact rfl|exact .inl rfl|exact .inr ⟨rfl,rfl⟩|refine And.intro ?_ ?_);done))
def ResT(r:Res):T:=if resB r=true then .tup [.v (.sl ((resN r).map cM)),.v (.int .i64 0)] else .tup [.v (.sl []),.v (.int .i64 100)]
theorem Result_fn(r:Res)(hm:midR r):Fn Tryz.prog (envX p) 28 [.v (.agg (cRes r))] (ResT r):=by
 have hc:=check_res p r hm
 unfold ResT
 cases hB:resB r
 ·rw[hB] at hc
  rw[if_neg (by decide)]
  refine fn_prog tabOk mixed Tryz.f28 Tryz.func28 (by kernel_rfl) (by kernel_rfl) ?_
  conv=>whnf
  (refine st_call hc ?_ rfl rfl ?_;(focus ((repeat' first|exact trivial|exact rfl|exact .inl rfl|exact .inr ⟨rfl,rfl⟩|refine And.intro ?_ ?_);done));conv=>whnf)
  (refine st_call (told_wrong_fn p resS) ?_ rfl rfl ?_;(focus ((repeat' first|exact trivial|exact rfl|exact .inl rfl|exact .inr ⟨rfl,rfl⟩|refine And.intro ?_ ?_);done));conv=>whnf)
  (focus ((repeat' first|exact trivial|exact rfl|exact .inl rfl|exact .inr ⟨rfl,rfl⟩|refine And.intro ?_ ?_);done))
 ·rw[hB] at hc
  rw[if_pos rfl]
  have h1:=number_fn p r.code
  have h2:=text_fn (X:=envX p) r.dn
  have h3:=text_fn (X:=envX p) r.text
  have h4:=texts_fn (X:=envX p) 163 r.refs hm.refs.1
  unfold resN
  by_cases h0:0 < r.refs.length
  ·rw[if_pos h0]
   refine fn_prog tabOk mixed Tryz.f28 Tryz.func28 (by kernel_rfl) (by kernel_rfl) ?_
   conv=>whnf
   (refine st_call hc ?_ rfl rfl ?_;(focus ((repeat' first|exact trivial|exact rfl|exact .inl rfl|exact .inr ⟨rfl,rfl⟩|refine And.intro ?_ ?_);done));conv=>whnf)
   refine⟨some [0,1,3,4,6,7,2,5,8,9,10],by kernel_rfl,?_⟩;conv=>whnf
   (refine st_call h1 ?_ rfl rfl ?_;(focus ((repeat' first|exact trivial|exact rfl|exact .inl rfl|exact .inr ⟨rfl,rfl⟩|refine And.intro ?_ ?_);done));conv=>whnf)
   (refine st_call h2 ?_ rfl rfl ?_;(focus ((repeat' first|exact trivial|exact rfl|exact .inl rfl|exact .inr ⟨rfl,rfl⟩|refine And.intro ?_ ?_);done));conv=>whnf)
   (refine st_call h3 ?_ rfl rfl ?_;(focus ((repeat' first|exact trivial|exact rfl|exact .inl rfl|exact .inr ⟨rfl,rfl⟩|refine And.intro ?_ ?_);done));conv=>whnf)
   refine⟨rfl,cmp_true (by rw[List.length_map];omega) ?_⟩
   conv=>whnf
   (refine st_call h4 ?_ rfl rfl ?_;(focus ((repeat' first|exact trivial|exact rfl|exact .inl rfl|exact .inr ⟨rfl,rfl⟩|refine And.intro ?_ ?_);done));conv=>whnf)
   refine st_app (by simp) (by intro c hc;simp at hc;rw[hc];rfl) (show _=([numN r.code,leafN 4 r.dn,leafN 4 r.text]++[leavesN 163 r.refs]).map cM from rfl) ?_
   conv=>whnf
   (focus ((repeat' first|exact trivial|exact rfl|exact .inl rfl|exact .inr ⟨rfl,rfl⟩|refine And.intro ?_ ?_);done))
  ·rw[if_neg h0]
   refine fn_prog tabOk mixed Tryz.f28 Tryz.func28 (by kernel_rfl) (by kernel_rfl) ?_
   conv=>whnf
   (refine st_call hc ?_ rfl rfl ?_;(focus ((repeat' first|exact trivial|exact rfl|exact .inl rfl|exact .inr ⟨rfl,rfl⟩|refine And.intro ?_ ?_);done));conv=>whnf)
   refine⟨some [0,1,3,4,6,7,2,5,8,9,10],by kernel_rfl,?_⟩;conv=>whnf
   (refine st_call h1 ?_ rfl rfl ?_;(focus ((repeat' first|exact trivial|exact rfl|exact .inl rfl|exact .inr ⟨rfl,rfl⟩|refine And.intro ?_ ?_);done));conv=>whnf)
   (refine st_call h2 ?_ rfl rfl ?_;(focus ((repeat' first|exact trivial|exact rfl|exact .inl rfl|exact .inr ⟨rfl,rfl⟩|refine And.intro ?_ ?_);done));conv=>whnf)
   (refine st_call h3 ?_ rfl rfl ?_;(focus ((repeat' first|exact trivial|exact rfl|exact .inl rfl|exact .inr ⟨rfl,rfl⟩|refine And.intro ?_ ?_);done));conv=>whnf)
   refine⟨rfl,cmp_false (by rw[List.length_map];omega) ?_⟩
   conv=>whnf
   (focus ((repeat' first|exact trivial|exact rfl|exact .inl rfl|exact .inr ⟨rfl,rfl⟩|refine And.intro ?_ ?_);done))
def bRes(r:Res):List T:=[.v (.int .i64 r.code),.v (.str r.dn),.v (.str r.text),.v (.sl (r.refs.map encS))]
def bRes0:List T:=[.v (.int .i64 0),.v (.str (bt' [])),.v (.str (bt' [])),.v .nils]
theorem res_bad(r:Res):FnD Tryz.prog X 106 [[.v (paErr resS)],bRes r] [.ptr 0 0,.ptr 1 0] [[.v (paErr resS)],bRes0]:=by
 refine fnD_prog tabOk mixed Tryz.f106 Tryz.func106 (by kernel_rfl) (by kernel_rfl) (by kernel_rfl) (by kernel_rfl) rfl rfl rfl rfl ?_
 conv=>whnf
 (focus ((repeat' first|exact trivial|exact rfl|exact .inl rfl|exact .inr ⟨rfl,rfl⟩|refine And.intro ?_ ?_);done))
theorem res_good(r:Res):FnD Tryz.prog X 106 [[.v .nili],bRes r] [.ptr 0 0,.ptr 1 0] [[.v .nili],bRes r]:=by
 refine fnD_prog tabOk mixed Tryz.f106 Tryz.func106 (by kernel_rfl) (by kernel_rfl) (by kernel_rfl) (by kernel_rfl) rfl rfl rfl rfl ?_
 conv=>whnf
 (focus ((repeat' first|exact trivial|exact rfl|exact .inl rfl|exact .inr ⟨rfl,rfl⟩|refine And.intro ?_ ?_);done))
def resR:Option Res→T
 | some r=>.tup [.v (.agg (cRes r)),.v .nili]
 | none=>.tup [.v (.agg (cRes res0)),.v (paErr resS)]
abbrev shortT(l:List Nd):Prop:=∀x∈l,x.data.size≤1000000
theorem take_sz{tag:Int}{t:Tk}(h:shortT t.1):(takeD tag t).1.size≤1000000∧shortT (takeD tag t).2.1:=by
 unfold takeD
 split
 ·rename_i x r hn
  obtain⟨h1,_⟩:=next_some hn
  rw[h1] at h
  exact⟨h x (by simp),fun y hy=>h y (by simp[hy])⟩
 ·exact⟨Nat.zero_le _,h⟩
theorem takeI_sz{t:Tk}(h:shortT t.1):shortT (takeI t).2.1:=by
 unfold takeI
 split
 ·exact(take_sz h).2
 ·exact(take_sz h).2
theorem all_sz{M:Nat}(tag:Int):∀l:List Nd,(∀x∈l,x.data.size≤M)→∀s∈(allD tag l).1,s.size≤M
 | [],_,s,hs=>by cases hs
 | x::r,h,s,hs=>by
  rw[allD] at hs
  split at hs
  ·rcases List.mem_cons.1 hs with rfl | hs
   ·exact h x (by simp)
   ·exact all_sz tag r (fun y hy=>h y (by simp[hy])) s hs
  ·cases hs
theorem list_sz{tag:Int}{t:Tk}(h:limT t):∀s∈(takeL tag t).1,s.size≤100000000:=by
 unfold takeL
 split
 ·rename_i x r hn
  have:=(next_lim hn h).1
  exact all_sz 4 _ fun y hy=>(kidLe_at (kidLes_mem (kidLe_at this).2.2 y hy)).1
 ·intro s hs;cases hs
theorem refs_lim{t:Tk}(h:limT t):(takeR t).1.length≤100000000∧(∀s∈(takeR t).1,s.size≤100000000):=by
 unfold takeR
 split
 ·exact⟨(list_lim h).1,list_sz h⟩
 ·exact⟨Nat.zero_le _,fun s hs=>by cases hs⟩
theorem resN_mid{r:Res}(h:resB r=true):midNs (resN r):=by
 unfold resB refsB at h
 simp only[Bool.and_eq_true,decide_eq_true_eq] at h
 obtain⟨_,_,_,_,_,⟨_,h1,_⟩,_⟩:=h
 have hk:∀l:List ByteArray,midNs (l.map (leafN 4)):=by
  intro l
  induction l with
  | nil=>trivial
  | cons x r ih=>exact⟨⟨by decide,trivial⟩,ih⟩
 unfold resN
 split
 ·exact⟨⟨by decide,trivial⟩,⟨by decide,trivial⟩,⟨by decide,trivial⟩,⟨by rw[List.length_map];omega,hk _⟩,trivial⟩
 ·exact⟨⟨by decide,trivial⟩,⟨by decide,trivial⟩,⟨by decide,trivial⟩,trivial⟩
theorem resN_len(r:Res):(resN r).length≤4:=by
 unfold resN
 split <;> simp
set_option maxHeartbeats 8000000 in
theorem result_fn(l:List Nd)(hl:l.length≤100000000∧kidLes 100000000 l)(hs:shortT l):Fn Tryz.prog (envX p) 65 [.v (.sl (l.map cN))] (resR (readR l)):=by
 refine fn_of_m ?_
 have l0:limT (l,false):=hl
 have hI:=number_taken p (l,false) hl.1 (by have:=(take_lim (tag:=10) l0).1;omega)
 have l1:=numI_lim l0
 have z1:=takeI_sz (t:=(l,false)) hs
 have hrd:readR l=(let a:=takeI (l,false);let b:=takeD 4 a.2;let c:=takeD 4 b.2;let d:=takeR c.2;if d.2.2=false∧d.2.1=[]∧resB ⟨a.1,b.1,c.1,d.1⟩=true∧sameNs (resN ⟨a.1,b.1,c.1,d.1⟩) l=true then some ⟨a.1,b.1,c.1,d.1⟩ else none):=rfl
 generalize takeI (l,false)=x at hI l1 z1 hrd
 obtain⟨k,t1⟩:=x
 dsimp only at hI l1 z1 hrd
 have hD:=data_fn (X:=envX p) 4 t1 l1.1
 have l2:=take_lim (tag:=4) l1
 have z2:=take_sz (tag:=4) z1
 generalize takeD 4 t1=x at hD l2 z2 hrd
 obtain⟨d,t2⟩:=x
 dsimp only at hD l2 z2 hrd
 have hT:=data_fn (X:=envX p) 4 t2 l2.2.1
 have l3:=take_lim (tag:=4) l2.2
 generalize takeD 4 t2=x at hT l3 hrd
 obtain⟨tx,t3⟩:=x
 dsimp only at hT l3 hrd
 have hI3:=isIn_fn (X:=envX p) 163 t3
 have hL:=list_fn (X:=envX p) 163 (by decide) t3 l3.2.1 (limT_mid l3.2).2
 have l4:=refs_lim l3.2
 obtain⟨rf,t4,hR,hsr⟩:∃(rf:List ByteArray) (t4:Tk),takeR t3=(rf,t4)∧((isIn 163 t3=false∧rf=[]∧t4=t3)∨(isIn 163 t3=true∧rf=(takeL 163 t3).1∧t4=(takeL 163 t3).2)):=by
  cases hi:isIn 163 t3
  ·exact⟨[],t3,by unfold takeR;rw[hi];rfl,.inl ⟨rfl,rfl,rfl⟩⟩
  ·exact⟨_,_,by unfold takeR;rw[hi];rfl,.inr ⟨rfl,rfl,rfl⟩⟩
 rw[hR] at hrd l4
 dsimp only at hrd l4
 have hE:=end_fn (X:=envX p) t4
 have hU:Fn Tryz.prog (envX p) 82 [.v (.str resS),.v (.sl ([!t4.2,decide (t4.1=[])].map fun b=>[V.bool b]))] (.v (errU resS (endU t4.2 t4.1))):=unless_fn (X:=envX p) resS _ (by simp)
 have hm:midR ⟨k,d,tx,rf⟩:=⟨z2.1,by have:=l3.1;show tx.size≤_;omega,l4.1,fun s hs=>by have:=l4.2 s hs;omega⟩
 have hA:=Result_fn p _ hm
 unfold ResT at hA
 have hgd:=res_good (X:=envX p) ⟨k,d,tx,rf⟩
 have hbd:=res_bad (X:=envX p) ⟨k,d,tx,rf⟩
 have hmn:=kidLes_mid (Nat.le_refl _) hl.2
 obtain⟨m,e,hA2,hF,hfin⟩:∃(m:List Nd) (e:Int),Fn Tryz.prog (envX p) 28 [.v (.agg (cRes ⟨k,d,tx,rf⟩))] (.tup [.v (.sl (m.map cM)),.v (.int .i64 e)])∧Fn Tryz.prog (envX p) 49 [.v (.sl (m.map cM)),.v (.sl (l.map cN)),.fn 14 []] (.v (.bool (sameNs m l)))∧(endU t4.2 t4.1=true→readR l=if [decide (e=0),sameNs m l].all id=true then some ⟨k,d,tx,rf⟩ else none):=by
  have hmap:∀m:List Nd,m.map cM=m.map cN:=fun m=>List.map_congr_left fun x _=>(cM_eq x).symm
  cases hB:resB ⟨k,d,tx,rf⟩
  ·rw[hB,if_neg (by decide)] at hA
   refine⟨[],100,hA,eqN_fn [] l (by decide) (fun x hx=>by cases hx),fun h=>?_⟩
   rw[hrd,if_neg (fun h=>by rw[hB] at h;cases h.2.2.1)]
   rfl
  ·rw[hB,if_pos rfl] at hA
   refine⟨_,0,hA,by rw[hmap];exact eqN_fn _ l (by have:=resN_len ⟨k,d,tx,rf⟩;omega) (fun x hx y hy=>Tl.same_fn x y (midNs_mem (resN_mid hB) x hx) (midNs_mem hmn y hy)),fun h=>?_⟩
   obtain⟨u1,u2⟩:=(endU_iff _ _).1 h
   rw[hrd]
   cases hq:sameNs (resN ⟨k,d,tx,rf⟩) l
   ·rw[if_neg (fun h=>by cases h.2.2.2),if_neg (by simp)]
   ·rw[if_pos ⟨u1,u2,hB,rfl⟩,if_pos (by simp)]
 have hU2:=unless_fn (X:=envX p) resS [decide (e=0),sameNs m l] (by simp)
 clear hA hm l4 hl hs hmn l0 l1 l2 l3 z1 z2 hR
 cases hu:endU t4.2 t4.1
 ·rw[hu] at hU
  rw[show readR l=none from by rw[hrd,if_neg fun h=>by rw[(endU_iff _ _).2 ⟨h.1,h.2.1⟩] at hu;cases hu]]
  rcases hsr with⟨hi,rfl,rfl⟩ | ⟨hi,rfl,rfl⟩
  all_goals
   rw[hi] at hI3
   refine fnM_defer (d:=8) (fc:=106) tabOk mixed Tryz.f65 Tryz.func65 (by kernel_rfl) rfl rfl rfl rfl rfl rfl rfl rfl rfl (by decide) (by decide) (by kernel_rfl) rfl rfl rfl rfl ?_
   conv=>whnf
   (refine st_callM [12] (hI) rfl ?_ ?_ rfl ?_;(focus ((repeat' first|exact trivial|exact rfl|exact .inl rfl|exact .inr ⟨rfl,rfl⟩|refine And.intro ?_ ?_);done));(focus ((repeat' first|exact trivial|exact rfl|exact .inl rfl|exact .inr ⟨rfl,rfl⟩|refine And.intro ?_ ?_);done));conv=>whnf)
   (refine st_callM [12] (hD) rfl ?_ ?_ rfl ?_;(focus ((repeat' first|exact trivial|exact rfl|exact .inl rfl|exact .inr ⟨rfl,rfl⟩|refine And.intro ?_ ?_);done));(focus ((repeat' first|exact trivial|exact rfl|exact .inl rfl|exact .inr ⟨rfl,rfl⟩|refine And.intro ?_ ?_);done));conv=>whnf)
   (refine st_callM [12] (hT) rfl ?_ ?_ rfl ?_;(focus ((repeat' first|exact trivial|exact rfl|exact .inl rfl|exact .inr ⟨rfl,rfl⟩|refine And.intro ?_ ?_);done));(focus ((repeat' first|exact trivial|exact rfl|exact .inl rfl|exact .inr ⟨rfl,rfl⟩|refine And.intro ?_ ?_);done));conv=>whnf)
   (refine st_callM [12] (hI3) rfl ?_ ?_ rfl ?_;(focus ((repeat' first|exact trivial|exact rfl|exact .inl rfl|exact .inr ⟨rfl,rfl⟩|refine And.intro ?_ ?_);done));(focus ((repeat' first|exact trivial|exact rfl|exact .inl rfl|exact .inr ⟨rfl,rfl⟩|refine And.intro ?_ ?_);done));conv=>whnf)
   try (refine st_callM [12] (hL) rfl ?_ ?_ rfl ?_;(focus ((repeat' first|exact trivial|exact rfl|exact .inl rfl|exact .inr ⟨rfl,rfl⟩|refine And.intro ?_ ?_);done));(focus ((repeat' first|exact trivial|exact rfl|exact .inl rfl|exact .inr ⟨rfl,rfl⟩|refine And.intro ?_ ?_);done));conv=>whnf)
   (refine⟨some [9999],by kernel_rfl,⟨(.one 0 (.one 1 (.one 2 (.one 5 (.or (.one 3 (.one 4 (.one 6 (.one 7 (.one 8 (.one 9 .nil)))))) (.one 6 (.one 3 (.one 4 (.one 7 (.one 8 (.one 9 .nil))))))))))),by kernel_rfl,?_,?_,?_⟩⟩;rotate_left;(focus ((conv=>whnf);(repeat' (first | (((with_reducible apply st_call (hU));(focus ((repeat' first|exact trivial|exact rfl|exact .inl rfl|exact .inr ⟨rfl,rfl⟩|refine And.intro ?_ ?_);done));(focus (exact rfl));(focus (exact rfl))) <;> (conv=>whnf)) | (((refine st_callM [12] (hE) rfl ?_ ?_ rfl ?_;(focus ((repeat' first|exact trivial|exact rfl|exact .inl rfl|exact .inr ⟨rfl,rfl⟩|refine And.intro ?_ ?_);done));(focus ((repeat' first|exact trivial|exact rfl|exact .inl rfl|exact .inr ⟨rfl,rfl⟩|refine And.intro ?_ ?_);done)))) <;> (conv=>whnf)) | ((refine And.intro ?_ ?_) <;> (conv=>whnf)) | (exact St.le_refl _) | (refine⟨rfl,?_,?_,?_⟩ <;> (repeat' (first | exact trivial | (refine⟨rfl,?_⟩)));done) | fail)))));conv=>whnf
   refine⟨rfl,[3,2],_,_,_,hbd,rfl,?_,?_,?_⟩
   ·(focus ((repeat' first|exact trivial|exact rfl|exact .inl rfl|exact .inr ⟨rfl,rfl⟩|refine And.intro ?_ ?_);done))
   ·(focus ((repeat' first|exact trivial|exact rfl|exact .inl rfl|exact .inr ⟨rfl,rfl⟩|refine And.intro ?_ ?_);done))
   conv=>whnf
   (focus ((repeat' first|exact trivial|exact rfl|exact .inl rfl|exact .inr ⟨rfl,rfl⟩|refine And.intro ?_ ?_);done))
 ·rw [hu] at hU
  rw[hfin hu]
  cases hq:[decide (e=0),sameNs m l].all id <;> rw[hq] at hU2
  all_goals
   rcases hsr with⟨hi,rfl,rfl⟩ | ⟨hi,rfl,rfl⟩
   all_goals
    rw[hi] at hI3
    refine fnM_defer (d:=8) (fc:=106) tabOk mixed Tryz.f65 Tryz.func65 (by kernel_rfl) rfl rfl rfl rfl rfl rfl rfl rfl rfl (by decide) (by decide) (by kernel_rfl) rfl rfl rfl rfl ?_
    conv=>whnf
    (refine st_callM [12] (hI) rfl ?_ ?_ rfl ?_;(focus ((repeat' first|exact trivial|exact rfl|exact .inl rfl|exact .inr ⟨rfl,rfl⟩|refine And.intro ?_ ?_);done));(focus ((repeat' first|exact trivial|exact rfl|exact .inl rfl|exact .inr ⟨rfl,rfl⟩|refine And.intro ?_ ?_);done));conv=>whnf)
    (refine st_callM [12] (hD) rfl ?_ ?_ rfl ?_;(focus ((repeat' first|exact trivial|exact rfl|exact .inl rfl|exact .inr ⟨rfl,rfl⟩|refine And.intro ?_ ?_);done));(focus ((repeat' first|exact trivial|exact rfl|exact .inl rfl|exact .inr ⟨rfl,rfl⟩|refine And.intro ?_ ?_);done));conv=>whnf)
    (refine st_callM [12] (hT) rfl ?_ ?_ rfl ?_;(focus ((repeat' first|exact trivial|exact rfl|exact .inl rfl|exact .inr ⟨rfl,rfl⟩|refine And.intro ?_ ?_);done));(focus ((repeat' first|exact trivial|exact rfl|exact .inl rfl|exact .inr ⟨rfl,rfl⟩|refine And.intro ?_ ?_);done));conv=>whnf)
    (refine st_callM [12] (hI3) rfl ?_ ?_ rfl ?_;(focus ((repeat' first|exact trivial|exact rfl|exact .inl rfl|exact .inr ⟨rfl,rfl⟩|refine And.intro ?_ ?_);done));(focus ((repeat' first|exact trivial|exact rfl|exact .inl rfl|exact .inr ⟨rfl,rfl⟩|refine And.intro ?_ ?_);done));conv=>whnf)
    try (refine st_callM [12] (hL) rfl ?_ ?_ rfl ?_;(focus ((repeat' first|exact trivial|exact rfl|exact .inl rfl|exact .inr ⟨rfl,rfl⟩|refine And.intro ?_ ?_);done));(focus ((repeat' first|exact trivial|exact rfl|exact .inl rfl|exact .inr ⟨rfl,rfl⟩|refine And.intro ?_ ?_);done));conv=>whnf)
    (refine⟨some [9999],by kernel_rfl,⟨(.one 0 (.one 1 (.one 2 (.one 5 (.or (.one 3 (.one 4 (.one 6 (.one 7 (.one 8 (.one 9 .nil)))))) (.one 6 (.one 3 (.one 4 (.one 7 (.one 8 (.one 9 .nil))))))))))),by kernel_rfl,?_,?_,?_⟩⟩;rotate_left;(focus ((conv=>whnf);(repeat' (first | (((with_reducible apply st_call (hU));(focus ((repeat' first|exact trivial|exact rfl|exact .inl rfl|exact .inr ⟨rfl,rfl⟩|refine And.intro ?_ ?_);done));(focus (exact rfl));(focus (exact rfl))) <;> (conv=>whnf)) | (((refine st_callM [12] (hE) rfl ?_ ?_ rfl ?_;(focus ((repeat' first|exact trivial|exact rfl|exact .inl rfl|exact .inr ⟨rfl,rfl⟩|refine And.intro ?_ ?_);done));(focus ((repeat' first|exact trivial|exact rfl|exact .inl rfl|exact .inr ⟨rfl,rfl⟩|refine And.intro ?_ ?_);done)))) <;> (conv=>whnf)) | ((refine And.intro ?_ ?_) <;> (conv=>whnf)) | (exact St.le_refl _) | (refine⟨rfl,?_,?_,?_⟩ <;> (repeat' (first | exact trivial | (refine⟨rfl,?_⟩)));done) | fail)))));conv=>whnf
    (refine st_call hA2 ?_ rfl rfl ?_;(focus ((repeat' first|exact trivial|exact rfl|exact .inl rfl|exact .inr ⟨rfl,rfl⟩|refine And.intro ?_ ?_);done));conv=>whnf)
    refine⟨none,by kernel_rfl,?_⟩;conv=>whnf
    refine⟨rfl,cmp_bool ?_⟩
    conv=>whnf
    refine st_call hF ⟨.inl rfl,.inl rfl,⟨rfl,trivial⟩,trivial⟩ rfl rfl ?_
    conv=>whnf
    (refine st_call hU2 ?_ rfl rfl ?_;(focus ((repeat' first|exact trivial|exact rfl|exact .inl rfl|exact .inr ⟨rfl,rfl⟩|refine And.intro ?_ ?_);done));conv=>whnf)
    first
     | (refine⟨rfl,[3,2],_,_,_,hgd,rfl,?_,?_,?_⟩;(focus ((repeat' first|exact trivial|exact rfl|exact .inl rfl|exact .inr ⟨rfl,rfl⟩|refine And.intro ?_ ?_);done));(focus ((repeat' first|exact trivial|exact rfl|exact .inl rfl|exact .inr ⟨rfl,rfl⟩|refine And.intro ?_ ?_);done)))
     | (refine⟨rfl,[3,2],_,_,_,hbd,rfl,?_,?_,?_⟩;(focus ((repeat' first|exact trivial|exact rfl|exact .inl rfl|exact .inr ⟨rfl,rfl⟩|refine And.intro ?_ ?_);done));(focus ((repeat' first|exact trivial|exact rfl|exact .inl rfl|exact .inr ⟨rfl,rfl⟩|refine And.intro ?_ ?_);done)))
    conv=>whnf
    (focus ((repeat' first|exact trivial|exact rfl|exact .inl rfl|exact .inr ⟨rfl,rfl⟩|refine And.intro ?_ ?_);done))
def resG:Option Res→T
 | some r=>.tup [.v (.agg (cRes r)),.v (.int .i64 0)]
 | none=>.tup [.v (.agg (cRes res0)),.v (.int .i64 100)]
theorem ReadResult_fn(l:List Nd)(hl:l.length≤100000000∧kidLes 100000000 l)(hs:shortT l):Fn Tryz.prog (envX p) 29 [.v (.sl (l.map cN))] (resG (readR l)):=by
 have hc:=result_fn p l hl hs
 cases h:readR l <;> rw[h] at hc
 all_goals
  refine fn_prog tabOk mixed Tryz.f29 Tryz.func29 (by kernel_rfl) (by kernel_rfl) ?_
  conv=>whnf
  (refine st_call hc ?_ rfl rfl ?_;(focus ((repeat' first|exact trivial|exact rfl|exact .inl rfl|exact .inr ⟨rfl,rfl⟩|refine And.intro ?_ ?_);done));conv=>whnf)
  refine⟨none,by kernel_rfl,?_⟩;conv=>whnf
 ·(refine st_call (told_wrong_fn p resS) ?_ rfl rfl ?_;(focus ((repeat' first|exact trivial|exact rfl|exact .inl rfl|exact .inr ⟨rfl,rfl⟩|refine And.intro ?_ ?_);done));conv=>whnf)
  (focus ((repeat' first|exact trivial|exact rfl|exact .inl rfl|exact .inr ⟨rfl,rfl⟩|refine And.intro ?_ ?_);done))
 ·(refine st_call (told_nil_fn p) ?_ rfl rfl ?_;(focus ((repeat' first|exact trivial|exact rfl|exact .inl rfl|exact .inr ⟨rfl,rfl⟩|refine And.intro ?_ ?_);done));conv=>whnf)
  (focus ((repeat' first|exact trivial|exact rfl|exact .inl rfl|exact .inr ⟨rfl,rfl⟩|refine And.intro ?_ ?_);done))
end Go.Proofs.YtknelogmocedeaaGreatDoor.Pa
namespace Go.Proofs.YtknelogmocedeaaGreatDoor.Fl
open Go.Lib
set_option linter.unusedVariables false
inductive Flt where
 | mk (kind:Int) (name value:ByteArray) (any:List ByteArray) (final:ByteArray) (l:List Flt)
def Flt.kind:Flt→Int | .mk k _ _ _ _ _=>k
def Flt.name:Flt→ByteArray | .mk _ n _ _ _ _=>n
def Flt.value:Flt→ByteArray | .mk _ _ v _ _ _=>v
def Flt.any:Flt→List ByteArray | .mk _ _ _ a _ _=>a
def Flt.final:Flt→ByteArray | .mk _ _ _ _ f _=>f
def Flt.l:Flt→List Flt | .mk _ _ _ _ _ l=>l
mutual
def sameF:Flt→Flt→Bool
 | .mk k n v a f l,.mk k' n' v' a' f' l'=>decide (k=k')&&(decide (n=n')&&(decide (v=v')&&(decide (f=f')&&(decide (a=a')&&sameFs l l'))))
def sameFs:List Flt→List Flt→Bool
 | [],[]=>true
 | x::r,y::s=>sameF x y&&sameFs r s
 | _,_=>false
end
mutual
theorem sameF_iff:∀x y:Flt,sameF x y=true↔x=y
 | .mk k n v a f l,.mk k' n' v' a' f' l'=>by
  rw[sameF]
  simp only[Bool.and_eq_true,decide_eq_true_eq,sameFs_iff l l']
  constructor
  ·rintro⟨rfl,rfl,rfl,rfl,rfl,rfl⟩;rfl
  ·intro h;injection h with h1 h2 h3 h4 h5 h6;exact⟨h1,h2,h3,h5,h4,h6⟩
theorem sameFs_iff:∀x y:List Flt,sameFs x y=true↔x=y
 | [],[]=>by simp[sameFs]
 | x::r,y::s=>by rw[sameFs,Bool.and_eq_true,sameF_iff x y,sameFs_iff r s,List.cons.injEq]
 | [],_::_=>by simp[sameFs]
 | _::_,[]=>by simp[sameFs]
end
theorem sameF_refl(x:Flt):sameF x x=true:=(sameF_iff x x).2 rfl
end Go.Proofs.YtknelogmocedeaaGreatDoor.Fl
namespace Go.Proofs.YtknelogmocedeaaGreatDoor.Ms
open Go.Lib Tl Pr Pa Fl
set_option linter.unusedVariables false
structure Sch where
 scope:Int
 deref:Int
 size:Int
 time:Int
 types:Bool
 filt:Flt
 names:List ByteArray
structure Mov where
 rdn:ByteArray
 del:Bool
 sup:ByteArray
 has:Bool
structure Bnd where
 simple:Bool
 auth:ByteArray
 mech:ByteArray
 has:Bool
structure Xt where
 oid:ByteArray
 val:ByteArray
 has:Bool
structure Msg where
 id:Int
 op:Int
 dn:ByteArray
 attrs:List Att
 changes:List Chg
 search:Sch
 move:Mov
 bind:Bnd
 ext:Xt
 result:Res
 refs:List ByteArray
 target:Int
 controls:List Ctl
def f0:Flt:=.mk 0 (bt' []) (bt' []) [] (bt' []) []
def sch0:Sch:=⟨0,0,0,0,false,f0,[]⟩
def mov0:Mov:=⟨bt' [],false,bt' [],false⟩
def bnd0:Bnd:=⟨false,bt' [],bt' [],false⟩
def xt0:Xt:=⟨bt' [],bt' [],false⟩
def msg0:Msg:=⟨0,0,bt' [],[],[],sch0,mov0,bnd0,xt0,res0,[],0,[]⟩
def msgO(op:Int):Msg:={msg0 with op:=op}
def attE(a b:Att):Bool:=decide (a.name=b.name)&&decide (a.vals=b.vals)
def attsE:List Att→List Att→Bool
 | [],[]=>true
 | x::r,y::s=>attE x y&&attsE r s
 | _,_=>false
def chgsE:List Chg→List Chg→Bool
 | [],[]=>true
 | x::r,y::s=>(decide (x.kind=y.kind)&&attE x.att y.att)&&chgsE r s
 | _,_=>false
def ctlE(a b:Ctl):Bool:=decide (a.oid=b.oid)&&(decide (a.crit=b.crit)&&(decide (a.val=b.val)&&decide (a.has=b.has)))
def ctlsE:List Ctl→List Ctl→Bool
 | [],[]=>true
 | x::r,y::s=>ctlE x y&&ctlsE r s
 | _,_=>false
def resE(a b:Res):Bool:=decide (a.code=b.code)&&(decide (a.dn=b.dn)&&(decide (a.text=b.text)&&decide (a.refs=b.refs)))
def schE(a b:Sch):Bool:=decide (a.scope=b.scope)&&(decide (a.deref=b.deref)&&(decide (a.size=b.size)&&(decide (a.time=b.time)&&(decide (a.types=b.types)&&(sameF a.filt b.filt&&decide (a.names=b.names))))))
def movE(a b:Mov):Bool:=decide (a.rdn=b.rdn)&&(decide (a.del=b.del)&&(decide (a.sup=b.sup)&&decide (a.has=b.has)))
def bndE(a b:Bnd):Bool:=decide (a.simple=b.simple)&&(decide (a.auth=b.auth)&&(decide (a.mech=b.mech)&&decide (a.has=b.has)))
def xtE(a b:Xt):Bool:=decide (a.oid=b.oid)&&(decide (a.val=b.val)&&decide (a.has=b.has))
def msgE(a b:Msg):Bool:=decide (a.id=b.id)&&(decide (a.op=b.op)&&(decide (a.dn=b.dn)&&(movE a.move b.move&&(bndE a.bind b.bind&&(xtE a.ext b.ext&&(decide (a.target=b.target)&&(chgsE a.changes b.changes&&(ctlsE a.controls b.controls&&(attsE a.attrs b.attrs&&(schE a.search b.search&&(resE a.result b.result&&decide (a.refs=b.refs))))))))))))
theorem attE_iff(a b:Att):attE a b=true↔a=b:=by
 obtain⟨a1,a2⟩:=a
 obtain⟨b1,b2⟩:=b
 simp[attE]
theorem attsE_iff:∀a b:List Att,attsE a b=true↔a=b
 | [],[]=>by simp[attsE]
 | x::r,y::s=>by rw[attsE,Bool.and_eq_true,attE_iff,attsE_iff r s,List.cons.injEq]
 | [],_::_=>by simp[attsE]
 | _::_,[]=>by simp[attsE]
theorem chgsE_iff:∀a b:List Chg,chgsE a b=true↔a=b
 | [],[]=>by simp[chgsE]
 | x::r,y::s=>by
  rw[chgsE,Bool.and_eq_true,Bool.and_eq_true,attE_iff,chgsE_iff r s,List.cons.injEq,decide_eq_true_eq]
  obtain⟨x1,x2⟩:=x
  obtain⟨y1,y2⟩:=y
  simp
 | [],_::_=>by simp[chgsE]
 | _::_,[]=>by simp[chgsE]
theorem ctlE_iff(a b:Ctl):ctlE a b=true↔a=b:=by
 obtain⟨a1,a2,a3,a4⟩:=a
 obtain⟨b1,b2,b3,b4⟩:=b
 simp[ctlE]
theorem ctlsE_iff:∀a b:List Ctl,ctlsE a b=true↔a=b
 | [],[]=>by simp[ctlsE]
 | x::r,y::s=>by rw[ctlsE,Bool.and_eq_true,ctlE_iff,ctlsE_iff r s,List.cons.injEq]
 | [],_::_=>by simp[ctlsE]
 | _::_,[]=>by simp[ctlsE]
theorem resE_iff(a b:Res):resE a b=true↔a=b:=by
 obtain⟨a1,a2,a3,a4⟩:=a
 obtain⟨b1,b2,b3,b4⟩:=b
 simp[resE]
theorem schE_iff(a b:Sch):schE a b=true↔a=b:=by
 obtain⟨a1,a2,a3,a4,a5,a6,a7⟩:=a
 obtain⟨b1,b2,b3,b4,b5,b6,b7⟩:=b
 simp[schE,sameF_iff]
theorem movE_iff(a b:Mov):movE a b=true↔a=b:=by
 obtain⟨a1,a2,a3,a4⟩:=a
 obtain⟨b1,b2,b3,b4⟩:=b
 simp[movE]
theorem bndE_iff(a b:Bnd):bndE a b=true↔a=b:=by
 obtain⟨a1,a2,a3,a4⟩:=a
 obtain⟨b1,b2,b3,b4⟩:=b
 simp[bndE]
theorem xtE_iff(a b:Xt):xtE a b=true↔a=b:=by
 obtain⟨a1,a2,a3⟩:=a
 obtain⟨b1,b2,b3⟩:=b
 simp[xtE]
theorem msgE_iff(a b:Msg):msgE a b=true↔a=b:=by
 obtain⟨a1,a2,a3,a4,a5,a6,a7,a8,a9,a10,a11,a12,a13⟩:=a
 obtain⟨b1,b2,b3,b4,b5,b6,b7,b8,b9,b10,b11,b12,b13⟩:=b
 simp only[msgE,Bool.and_eq_true,decide_eq_true_eq,movE_iff,bndE_iff,xtE_iff,chgsE_iff,ctlsE_iff,attsE_iff,schE_iff,resE_iff,Msg.mk.injEq]
 constructor
 ·rintro⟨h1,h2,h3,h4,h5,h6,h7,h8,h9,h10,h11,h12,h13⟩;exact⟨h1,h2,h3,h10,h8,h11,h4,h5,h6,h12,h13,h7,h9⟩
 ·rintro⟨h1,h2,h3,h10,h8,h11,h4,h5,h6,h12,h13,h7,h9⟩;exact⟨h1,h2,h3,h4,h5,h6,h7,h8,h9,h10,h11,h12,h13⟩
theorem msgE_refl(a:Msg):msgE a a=true:=(msgE_iff a a).2 rfl
end Go.Proofs.YtknelogmocedeaaGreatDoor.Ms
namespace Go.Proofs.YtknelogmocedeaaGreatDoor.Fi
open Go.RowKit Go.Shelf Go.Lib Fl
set_option linter.unusedVariables false
mutual
def cF:Flt→List V
 | .mk k n v a f l=>[.int .i64 k,.str n,.str v,.sl (a.map encS),.str f,.sl (cFs l)]
def cFs:List Flt→List (List V)
 | []=>[]
 | x::r=>cF x::cFs r
end
theorem cFs_map:∀l:List Flt,cFs l=l.map cF
 | []=>rfl
 | x::r=>by rw[cFs,cFs_map r];rfl
def cG(x:Flt):List V:=[.int .i64 x.kind,.str x.name,.str x.value,.sl (x.any.map encS),.str x.final,.sl (x.l.map cF)]
theorem cG_eq:∀x:Flt,cF x=cG x
 | .mk k n v a f l=>by rw[cF,cFs_map];rfl
theorem st_idxF{xs:List Flt}{i:Nat}{K:List V→Prop}(h:i < xs.length)(hK:K (cG (xs[i]'h))):∃c,(0:Int)≤(i:Nat)∧(xs.map cF)[((i:Nat):Int).toNat]? =some c∧c.length=6∧K c:=
 ⟨_,by omega,by rw[Int.toNat_natCast,List.getElem?_map,List.getElem?_eq_getElem h,Option.map_some,cG_eq],rfl,hK⟩
mutual
def midF:Flt→Prop
 | .mk k n v a f l=>n.size≤100000000∧v.size≤100000000∧f.size≤100000000∧a.length≤100000000∧l.length≤100000000∧midFs l
def midFs:List Flt→Prop
 | []=>True
 | x::r=>midF x∧midFs r
end
theorem midFs_mem:∀{l:List Flt},midFs l→∀x∈l,midF x
 | [],_,x,hx=>by cases hx
 | y::r,h,x,hx=>by
  rcases List.mem_cons.1 hx with rfl | hx
  ·exact h.1
  ·exact midFs_mem h.2 x hx
end Go.Proofs.YtknelogmocedeaaGreatDoor.Fi
namespace Go.Proofs.YtknelogmocedeaaGreatDoor.Fi
open Go.RowKit Go.Shelf Go.Lib Fl
set_option linter.unusedVariables false
def cut61B(s:ByteArray):ByteArray:=s.extract 0 (min s.size 61)
def cutF:Nat→Flt→Flt
 | 0,.mk k n v a f _=>.mk k (cut61B n) (cut61B v) ((a.take 10).map cut61B) (cut61B f) []
 | d+1,.mk k n v a f l=>.mk k (cut61B n) (cut61B v) ((a.take 10).map cut61B) (cut61B f) ((l.take 10).map (cutF d))
def cutsF:Nat→Flt→List Flt
 | 0,_=>[]
 | d+1,f=>(f.l.take 10).map (cutF d)
theorem cutF_eq:∀(d:Nat) (f:Flt),cutF d f=.mk f.kind (cut61B f.name) (cut61B f.value) ((f.any.take 10).map cut61B) (cut61B f.final) (cutsF d f)
 | 0,.mk k n v a f _=>rfl
 | d+1,.mk k n v a f l=>rfl
variable {X : En}
set_option maxHeartbeats 4000000 in
theorem cutAt_one(d:Nat)(f:Flt)(hd:d≤100)(hrec:∀e,d=e+1→∀x:Flt,Fn Tryz.prog X 108 [.v (.agg (cG x)),.v (.int .i64 ((e+1:Nat):Int))] (.v (.agg (cG (cutF e x))))):Fn Tryz.prog X 108 [.v (.agg (cG f)),.v (.int .i64 ((d+1:Nat):Int))] (.v (.agg (cG (cutF d f)))):=by
  refine fn_prog tabOk mixed Tryz.f108 Tryz.func108 (by kernel_rfl) (by kernel_rfl) ?_
  conv=>whnf
  refine⟨none,by kernel_rfl,?_⟩;conv=>whnf
  refine st_min 61 ?_
  conv=>whnf
  refine st_cut 0 (min f.name.size 61) rfl rfl (by omega) (by omega) ?_
  conv=>whnf
  refine st_min 61 ?_
  conv=>whnf
  refine st_cut 0 (min f.value.size 61) rfl rfl (by omega) (by omega) ?_
  conv=>whnf
  refine st_min 61 ?_
  conv=>whnf
  refine st_cut 0 (min f.final.size 61) rfl rfl (by omega) (by omega) ?_
  conv=>whnf
  refine⟨Nat,fun i=>⟨90,[(1,.v (.int .i64 ((d+1:Nat):Int))),(2,.ptr 2 0),(4,.ptr 4 0),(5,.ptr 5 0),(6,.v (.int .i64 (i:Nat)))],[(2,(cG f).map .v),(4,(cG (.mk 0 (bt' []) (bt' []) [] (bt' []) [])).map .v),(5,[.v (.int .i64 f.kind),.v (.str (cut61B f.name)),.v (.str (cut61B f.value)),.own 59 9 ((f.any.take i).map fun s=>encS (cut61B s)),.v (.str (cut61B f.final)),.v .nils])],[(59,some 9)]⟩,fun i=>i≤f.any.length∧i≤10,fun i=>f.any.length - i,⟨0,[(59,none)],⟨by omega,by omega⟩,?_⟩,fun i ⟨hi,hi10⟩=>?_⟩
  ·(focus ((repeat' first|exact trivial|exact rfl|exact .inl rfl|exact .inr ⟨rfl,rfl⟩|refine And.intro ?_ ?_);done))
  conv=>whnf
  refine⟨rfl,cmp_split (fun h=>?_) (fun h=>?_)⟩
  have hil:i < f.any.length:=by rw[List.length_map] at h;omega
  conv=>whnf
  refine⟨rfl,cmp_split (fun h2=>?_) (fun h2=>?_)⟩
  ·conv=>whnf
   refine⟨none,by kernel_rfl,?_⟩;conv=>whnf
   refine st_idx hil rfl ?_
   conv=>whnf
   refine st_idx hil rfl ?_
   conv=>whnf
   refine st_min 61 ?_
   conv=>whnf
   refine st_cut 0 (min f.any[i].size 61) rfl rfl (by omega) (by omega) ?_
   conv=>whnf
   refine st_app (by simp;omega) (by simp[V.cells]) (map_take_succ (enc:=fun s=>encS (cut61B s)) hil) ?_
   conv=>whnf
   refine⟨rfl,st_succ (by omega) ?_⟩
   conv=>whnf
   refine⟨i+1,[(59,some 59)],⟨by omega,by omega⟩,by dsimp only;omega,?_⟩
   (focus ((repeat' first|exact trivial|exact rfl|exact .inl rfl|exact .inr ⟨rfl,rfl⟩|refine And.intro ?_ ?_);done))
  all_goals
   have hany:((f.any.take i).map fun s=>encS (cut61B s))=((f.any.take 10).map cut61B).map encS:=by
    rw[List.map_map]
    have:f.any.take i=f.any.take 10:=by
     rw[List.length_map] at h
     by_cases h10:f.any.length≤i
     ·rw[List.take_of_length_le h10,List.take_of_length_le (by omega)]
     ·rw[show i=10 by omega]
    rw[this];rfl
   clear h
   conv=>whnf
   rw[hany]
   refine⟨Nat,fun j=>⟨90,[(1,.v (.int .i64 ((d+1:Nat):Int))),(2,.ptr 2 0),(4,.ptr 4 0),(5,.ptr 5 0),(7,.v (.int .i64 (j:Nat)))],[(2,(cG f).map .v),(4,(cG (.mk 0 (bt' []) (bt' []) [] (bt' []) [])).map .v),(5,[.v (.int .i64 f.kind),.v (.str (cut61B f.name)),.v (.str (cut61B f.value)),.own 59 9 (((f.any.take 10).map cut61B).map encS),.v (.str (cut61B f.final)),.own 87 74 ((f.l.take j).map fun x=>cG (cutF (d - 1) x))])],[(59,some 9),(87,some 74)]⟩,fun j=>j≤f.l.length∧j≤10∧(d=0→j=0),fun j=>f.l.length - j,⟨0,[(59,some 59),(87,none)],⟨by omega,by omega,fun _=>rfl⟩,?_⟩,fun j ⟨hj,hj10,hd0⟩=>?_⟩
   ·(focus ((repeat' first|exact trivial|exact rfl|exact .inl rfl|exact .inr ⟨rfl,rfl⟩|refine And.intro ?_ ?_);done))
   conv=>whnf
   refine⟨rfl,cmp_split (fun h=>?_) (fun h=>?_)⟩
   have hjl:j < f.l.length:=by rw[List.length_map] at h;omega
   conv=>whnf
   refine⟨rfl,cmp_split (fun h2=>?_) (fun h2=>?_)⟩
   conv=>whnf
   refine⟨rfl,cmp_split (fun h3=>?_) (fun h3=>?_)⟩
   ·conv=>whnf
    refine⟨none,by kernel_rfl,?_⟩;conv=>whnf
    refine st_idxF hjl ?_
    conv=>whnf
    obtain⟨e,rfl⟩:∃e,d=e+1:=⟨d - 1,by omega⟩
    refine st_minus (e+1+1) 1 (by omega) (by omega) ?_
    conv=>whnf
    (refine st_call (hrec e rfl f.l[j]) ?_ rfl rfl ?_;(focus ((repeat' first|exact trivial|exact rfl|exact .inl rfl|exact .inr ⟨rfl,rfl⟩|refine And.intro ?_ ?_);done));conv=>whnf)
    refine st_app (by simp;omega) (by simp[V.cells]) (map_take_succ (enc:=fun x=>cG (cutF e x)) hjl) ?_
    conv=>whnf
    refine⟨rfl,st_succ (by omega) ?_⟩
    conv=>whnf
    refine⟨j+1,[(59,some 59),(87,some 87)],⟨by omega,by omega,fun h=>by omega⟩,by dsimp only;omega,?_⟩
    (focus ((repeat' first|exact trivial|exact rfl|exact .inl rfl|exact .inr ⟨rfl,rfl⟩|refine And.intro ?_ ?_);done))
   all_goals
    have hl:((f.l.take j).map fun x=>cG (cutF (d - 1) x))=(cutsF d f).map cF:=by
     rw[List.length_map] at h
     cases d with
     | zero=>rw[hd0 rfl];rfl
     | succ e=>
      show _=((f.l.take 10).map (cutF e)).map cF
      rw[List.map_map,show f.l.take j=f.l.take 10 by
       by_cases h10:f.l.length≤j
       ·rw[List.take_of_length_le h10,List.take_of_length_le (by omega)]
       ·rw[show j=10 by omega]]
      exact List.map_congr_left fun x _=>(cG_eq _).symm
    conv=>whnf
    rw[hl,cutF_eq]
    exact⟨.inl rfl,rfl⟩
theorem cutAt_fn:∀(d:Nat),d≤100→∀f:Flt,Fn Tryz.prog X 108 [.v (.agg (cG f)),.v (.int .i64 ((d+1:Nat):Int))] (.v (.agg (cG (cutF d f))))
 | 0,hd,f=>cutAt_one 0 f hd (fun e h=>by cases h)
 | d+1,hd,f=>cutAt_one (d+1) f hd (fun e h x=>by
   obtain rfl:d=e:=by omega
   exact cutAt_fn d (by omega) x)
def CutF(f:Flt):Flt:=cutF 7 f
theorem CutF_fn(f:Flt):Fn Tryz.prog X 71 [.v (.agg (cG f))] (.v (.agg (cG (CutF f)))):=by
 refine fn_prog tabOk mixed Tryz.f71 Tryz.func71 (by kernel_rfl) (by kernel_rfl) ?_
 conv=>whnf
 (refine st_call (cutAt_fn 7 (by omega) f) ?_ rfl rfl ?_;(focus ((repeat' first|exact trivial|exact rfl|exact .inl rfl|exact .inr ⟨rfl,rfl⟩|refine And.intro ?_ ?_);done));conv=>whnf)
 exact⟨.inl rfl,rfl⟩
theorem cut61_size(s:ByteArray):(cut61B s).size≤61:=by unfold cut61B;rw[ByteArray.size_extract];omega
mutual
theorem cut_mid:∀(d:Nat) (f:Flt),midF (cutF d f)
 | 0,.mk k n v a f _=>⟨Nat.le_trans (cut61_size n) (by decide),Nat.le_trans (cut61_size v) (by decide),Nat.le_trans (cut61_size f) (by decide),by rw[List.length_map,List.length_take];omega,Nat.zero_le _,trivial⟩
 | d+1,.mk k n v a f l=>⟨Nat.le_trans (cut61_size n) (by decide),Nat.le_trans (cut61_size v) (by decide),Nat.le_trans (cut61_size f) (by decide),by rw[List.length_map,List.length_take];omega,by rw[List.length_map,List.length_take];omega,cuts_mid d (l.take 10)⟩
theorem cuts_mid:∀(d:Nat) (l:List Flt),midFs (l.map (cutF d))
 | _,[]=>trivial
 | d,x::r=>⟨cut_mid d x,cuts_mid d r⟩
end
theorem Cut_mid(f:Flt):midF (CutF f):=cut_mid 7 f
end Go.Proofs.YtknelogmocedeaaGreatDoor.Fi
namespace Go.Proofs.YtknelogmocedeaaGreatDoor.Fi
open Go.RowKit Go.Shelf Go.Lib Fl
set_option linter.unusedVariables false
variable {X : En}
theorem texts_fn(a b:List ByteArray)(ha:a.length≤1000000000):Fn Tryz.prog X 66 [.v (.sl (a.map encS)),.v (.sl (b.map encS))] (.v (.bool (decide (a=b)))):=by
 refine fn_prog tabOk mixed Tryz.f66 Tryz.func66 (by kernel_rfl) (by kernel_rfl) ?_
 conv=>whnf
 refine⟨rfl,cmp_split (fun h=>?_) (fun h=>?_)⟩
 ·rw[List.length_map,List.length_map] at h
  conv=>whnf
  exact⟨.inl (congrArg V.bool (decide_eq_false (fun e=>h (by rw[e]))).symm),rfl⟩
 rw[List.length_map,List.length_map] at h
 have hab:a.length=b.length:=by omega
 conv=>whnf
 refine⟨Nat,fun i=>⟨26,[(0,.v (.sl (a.map encS))),(1,.v (.sl (b.map encS))),(5,.v (.int .i64 (i:Nat)))],[],[]⟩,fun i=>i≤a.length∧a.take i=b.take i,fun i=>a.length - i,⟨0,[],⟨by omega,by simp⟩,?_⟩,fun i ⟨hi,he⟩=>?_⟩
 ·(focus ((repeat' first|exact trivial|exact rfl|exact .inl rfl|exact .inr ⟨rfl,rfl⟩|refine And.intro ?_ ?_);done))
 conv=>whnf
 refine⟨rfl,cmp_split (fun h=>?_) (fun h=>?_)⟩
 ·rw[List.length_map] at h
  have hil:i < a.length:=by omega
  have hib:i < b.length:=by omega
  conv=>whnf
  refine⟨none,by kernel_rfl,?_⟩;conv=>whnf
  refine st_idx hil rfl ?_
  conv=>whnf
  refine st_idx hib rfl ?_
  conv=>whnf
  refine cmp_split (fun h2=>?_) (fun h2=>?_)
  ·conv=>whnf
   exact⟨.inl (congrArg V.bool (decide_eq_false (fun e=>h2 (by subst e;rfl))).symm),rfl⟩
  ·conv=>whnf
   refine⟨rfl,st_succ (by omega) ?_⟩
   conv=>whnf
   refine⟨i+1,[],⟨by omega,?_⟩,by dsimp only;omega,?_⟩
   ·rw[List.take_succ_eq_append_getElem hil,List.take_succ_eq_append_getElem hib,he,Classical.not_not.1 h2]
   ·(focus ((repeat' first|exact trivial|exact rfl|exact .inl rfl|exact .inr ⟨rfl,rfl⟩|refine And.intro ?_ ?_);done))
 ·rw[List.length_map] at h
  conv=>whnf
  rw[List.take_of_length_le (by omega),List.take_of_length_le (by omega)] at he
  exact⟨.inl (congrArg V.bool (decide_eq_true he).symm),rfl⟩
end Go.Proofs.YtknelogmocedeaaGreatDoor.Fi
