/- Several texts, one behind the other. latinerref02.Same, latinerref10.Trees, SameAttr, SameResult, walked. Conditions: at most 10^8 in one. Trees cut as chapter 2's (latinerlaw02.Cut), walked. No conditions. The statements of latinerlaw10, walked: what they cut. No conditions. latinerlaw11.Cut, walked: messages, their texts cut at two hundred and one bytes, their lists at eight. No conditions. rep, plain: which responses are right, their trees, responses of trees; what is made, read, is that. No program. errors.As at an error type of the package Rep: a struct of one cell. No conditions beyond the shape of memory that each theorem names. errors.Is at an error of the package Rep that wraps the package's sentinel, against a sentinel: true just if it is that one (Go's text is walked). No conditions beyond the shape of memory that each theorem names. rep.told: the number of an error of the package rep. Conditions: the package's variable holds its sentinel. -/
import Derived.Test.YtknelogmocedeaaGreatDoorR29
import Derived.Test.YtknelogmocedeaaGreatDoorR25
import Derived.Test.YtknelogmocedeaaGreatDoorR16
import Derived.Test.YtknelogmocedeaaGreatDoorProg
import Derived.WalkKit
import Derived.KernelRfl
import Derived.LaidEql
import Derived.Stop.Asserts
import Derived.RowKitTokens
import Derived.Test.YtknelogmocedeaaGreatDoorR01
namespace Go.Proofs.YtknelogmocedeaaGreatDoor.Pa
open Go.RowKit Go.Shelf Go.Lib Tl Pr
open Fl (bl bt' bl_bt bl_of size_bl)
open Fi (one_arg encS all_take_succ all_bad)
set_option linter.unusedVariables false
variable {X : En}
set_option maxHeartbeats 4000000 in
theorem refSame_one(x y:Nd)(hl:x.kids.length≤100000000)(hf:∀a∈x.kids,∀b∈y.kids,Fn Tryz.prog X 68 [.v (.agg (cM a)),.v (.agg (cM b))] (.v (.bool (sameN a b)))):Fn Tryz.prog X 68 [.v (.agg (cM x)),.v (.agg (cM y))] (.v (.bool (sameN x y))):=by
 have hs:sameN x y=(decide (x.tag=y.tag)&&(decide (x.data=y.data)&&sameNs x.kids y.kids)):=by cases x;cases y;rfl
 by_cases h1:x.tag=y.tag
 rotate_left
 ·rw[show decide (x.tag=y.tag)=false from decide_eq_false h1,Bool.false_and] at hs
  rw[hs]
  refine fn_prog tabOk mixed Tryz.f68 Tryz.func68 (by kernel_rfl) (by kernel_rfl) ?_
  conv=>whnf
  refine⟨rfl,cmp_true h1 ?_⟩
  conv=>whnf
  (focus ((repeat' first|exact trivial|exact rfl|exact .inl rfl|exact .inr ⟨rfl,rfl⟩|refine And.intro ?_ ?_);done))
 by_cases h2:x.data=y.data
 rotate_left
 ·rw[show decide (x.data=y.data)=false from decide_eq_false h2,Bool.false_and,Bool.and_false] at hs
  rw[hs]
  refine fn_prog tabOk mixed Tryz.f68 Tryz.func68 (by kernel_rfl) (by kernel_rfl) ?_
  conv=>whnf
  refine⟨rfl,cmp_false (fun e=>e h1) ?_⟩
  conv=>whnf
  refine cmp_true h2 ?_
  conv=>whnf
  (focus ((repeat' first|exact trivial|exact rfl|exact .inl rfl|exact .inr ⟨rfl,rfl⟩|refine And.intro ?_ ?_);done))
 rw[show decide (x.tag=y.tag)=true from decide_eq_true h1,show decide (x.data=y.data)=true from decide_eq_true h2,Bool.true_and,Bool.true_and] at hs
 rw[hs]
 clear hs
 refine fn_prog tabOk mixed Tryz.f68 Tryz.func68 (by kernel_rfl) (by kernel_rfl) ?_
 conv=>whnf
 refine⟨rfl,cmp_false (fun e=>e h1) ?_⟩
 conv=>whnf
 refine cmp_false (fun e=>e h2) ?_
 conv=>whnf
 generalize x.kids=l at*
 generalize y.kids=m at*
 refine⟨rfl,cmp_split (fun h=>?_) (fun h=>?_)⟩
 ·rw[List.length_map,List.length_map] at h
  conv=>whnf
  refine⟨.inl (congrArg V.bool ?_),rfl⟩
  cases hq:sameNs l m
  ·rfl
  ·exact absurd (by rw[sames_len l m hq]) h
 rw[List.length_map,List.length_map] at h
 have hab:l.length=m.length:=by omega
 conv=>whnf
 refine⟨Nat,fun i=>⟨46,[(2,.ptr 2 0),(3,.ptr 3 0),(5,.v (.int .i64 (i:Nat)))],[(2,[.v (.int .i64 x.tag),.v (.str x.data),.v (.sl (l.map cN))]),(3,[.v (.int .i64 y.tag),.v (.str y.data),.v (.sl (m.map cN))])],[]⟩,fun i=>i≤l.length∧∀j (h:j < i) (h1:j < l.length) (h2:j < m.length),sameN l[j] m[j]=true,fun i=>l.length - i,⟨0,[],⟨Nat.zero_le _,fun j h=>by omega⟩,?_⟩,fun i ⟨hi,he⟩=>?_⟩
 ·(focus ((repeat' first|exact trivial|exact rfl|exact .inl rfl|exact .inr ⟨rfl,rfl⟩|refine And.intro ?_ ?_);done))
 conv=>whnf
 refine⟨rfl,cmp_split (fun h=>?_) (fun h=>?_)⟩
 ·rw[List.length_map] at h
  have hil:i < l.length:=by omega
  have him:i < m.length:=by omega
  conv=>whnf
  refine⟨none,by kernel_rfl,?_⟩;conv=>whnf
  refine st_idxN hil ?_
  conv=>whnf
  refine st_idxN him ?_
  conv=>whnf
  refine st_callB (hf l[i] (List.getElem_mem hil) m[i] (List.getElem_mem him)) ⟨.inl rfl,.inl rfl,trivial⟩ rfl (fun h2=>?_) (fun h2=>?_)
  ·conv=>whnf
   refine⟨rfl,st_succ (by omega) ?_⟩
   conv=>whnf
   refine⟨i+1,[],⟨by omega,fun j hj h1 h3=>?_⟩,by dsimp only;omega,?_⟩
   ·by_cases e:j=i
    ·subst e;exact h2
    ·exact he j (by omega) h1 h3
   ·(focus ((repeat' first|exact trivial|exact rfl|exact .inl rfl|exact .inr ⟨rfl,rfl⟩|refine And.intro ?_ ?_);done))
  ·conv=>whnf
   exact⟨.inl (congrArg V.bool (sames_bad hil him h2).symm),rfl⟩
 ·rw[List.length_map] at h
  conv=>whnf
  refine⟨.inl (congrArg V.bool ?_),rfl⟩
  rcases sames_zip l m hab with h1 | ⟨j,h1,h2,h3⟩
  ·exact h1.symm
  ·rw[he j (by omega) h1 h2] at h3;cases h3
mutual
theorem refSame_fn:∀(x:Nd) (y:Nd),midN x→midN y→Fn Tryz.prog X 68 [.v (.agg (cM x)),.v (.agg (cM y))] (.v (.bool (sameN x y)))
 | .mk t d k,y,hx,hy=>by
  have hl:=refSame_fns k
  obtain⟨x1,x2⟩:=hx
  obtain⟨y1,y2⟩:=midN_at hy
  exact refSame_one (.mk t d k) y x1 (fun z hz u hu=>hl z hz u (midNs_mem x2 z hz) (midNs_mem y2 u hu))
theorem refSame_fns:∀(l:List Nd),∀z∈l,∀(y:Nd),midN z→midN y→Fn Tryz.prog X 68 [.v (.agg (cM z)),.v (.agg (cM y))] (.v (.bool (sameN z y)))
 | [],z,hz,_=>by cases hz
 | x::r,z,hz,y=>by
  intro h1 h2
  have hx:=refSame_fn x
  have hr:=refSame_fns r
  rcases List.mem_cons.1 hz with e | hz
  ·rw[e] at h1 ⊢;exact hx y h1 h2
  ·exact hr z hz y h1 h2
end
theorem trees_fn(l m:List Nd)(hl:l.length≤100000000)(h1:midNs l)(h2:midNs m):Fn Tryz.prog X 34 [.v (.sl (l.map cN)),.v (.sl (m.map cN))] (.v (.bool (sameNs l m))):=by
 refine fn_prog tabOk mixed Tryz.f34 Tryz.func34 (by kernel_rfl) (by kernel_rfl) ?_
 conv=>whnf
 refine⟨rfl,cmp_split (fun h=>?_) (fun h=>?_)⟩
 ·rw[List.length_map,List.length_map] at h
  conv=>whnf
  refine⟨.inl (congrArg V.bool ?_),rfl⟩
  cases hq:sameNs l m
  ·rfl
  ·exact absurd (by rw[sames_len l m hq]) h
 rw[List.length_map,List.length_map] at h
 have hab:l.length=m.length:=by omega
 conv=>whnf
 refine⟨Nat,fun i=>⟨27,[(0,.v (.sl (l.map cN))),(1,.v (.sl (m.map cN))),(5,.v (.int .i64 (i:Nat)))],[],[]⟩,fun i=>i≤l.length∧∀j (h:j < i) (h1:j < l.length) (h2:j < m.length),sameN l[j] m[j]=true,fun i=>l.length - i,⟨0,[],⟨Nat.zero_le _,fun j h=>by omega⟩,?_⟩,fun i ⟨hi,he⟩=>?_⟩
 ·(focus ((repeat' first|exact trivial|exact rfl|exact .inl rfl|exact .inr ⟨rfl,rfl⟩|refine And.intro ?_ ?_);done))
 conv=>whnf
 refine⟨rfl,cmp_split (fun h=>?_) (fun h=>?_)⟩
 ·rw[List.length_map] at h
  have hil:i < l.length:=by omega
  have him:i < m.length:=by omega
  conv=>whnf
  refine⟨none,by kernel_rfl,?_⟩;conv=>whnf
  refine st_idxN hil ?_
  conv=>whnf
  refine st_idxN him ?_
  conv=>whnf
  refine st_callB (refSame_fn l[i] m[i] (midNs_mem h1 _ (List.getElem_mem hil)) (midNs_mem h2 _ (List.getElem_mem him))) ⟨.inl rfl,.inl rfl,trivial⟩ rfl (fun h2=>?_) (fun h2=>?_)
  ·conv=>whnf
   refine⟨rfl,st_succ (by omega) ?_⟩
   conv=>whnf
   refine⟨i+1,[],⟨by omega,fun j hj h1 h3=>?_⟩,by dsimp only;omega,?_⟩
   ·by_cases e:j=i
    ·subst e;exact h2
    ·exact he j (by omega) h1 h3
   ·(focus ((repeat' first|exact trivial|exact rfl|exact .inl rfl|exact .inr ⟨rfl,rfl⟩|refine And.intro ?_ ?_);done))
  ·conv=>whnf
   exact⟨.inl (congrArg V.bool (sames_bad hil him h2).symm),rfl⟩
 ·rw[List.length_map] at h
  conv=>whnf
  refine⟨.inl (congrArg V.bool ?_),rfl⟩
  rcases sames_zip l m hab with h1 | ⟨j,h1,h2,h3⟩
  ·exact h1.symm
  ·rw[he j (by omega) h1 h2] at h3;cases h3
def sameA(a b:Att):Bool:=decide (a.name=b.name)&&decide (a.vals=b.vals)
theorem sameAttr_fn(a b:Att)(ha:a.vals.length≤1000000000):Fn Tryz.prog X 30 [.v (.agg (cAtt a)),.v (.agg (cAtt b))] (.v (.bool (sameA a b))):=by
 have ht:=Fi.texts_fn (X:=X) a.vals b.vals ha
 unfold sameA
 by_cases h:a.name=b.name
 ·rw[show decide (a.name=b.name)=true from decide_eq_true h,Bool.true_and]
  refine fn_prog tabOk mixed Tryz.f30 Tryz.func30 (by kernel_rfl) (by kernel_rfl) ?_
  conv=>whnf
  refine cmp_true h ?_
  conv=>whnf
  (refine st_call ht ?_ rfl rfl ?_;(focus ((repeat' first|exact trivial|exact rfl|exact .inl rfl|exact .inr ⟨rfl,rfl⟩|refine And.intro ?_ ?_);done));conv=>whnf)
  (focus ((repeat' first|exact trivial|exact rfl|exact .inl rfl|exact .inr ⟨rfl,rfl⟩|refine And.intro ?_ ?_);done))
 ·rw[show decide (a.name=b.name)=false from decide_eq_false h,Bool.false_and]
  refine fn_prog tabOk mixed Tryz.f30 Tryz.func30 (by kernel_rfl) (by kernel_rfl) ?_
  conv=>whnf
  refine cmp_false h ?_
  conv=>whnf
  (focus ((repeat' first|exact trivial|exact rfl|exact .inl rfl|exact .inr ⟨rfl,rfl⟩|refine And.intro ?_ ?_);done))
def sameR(a b:Res):Bool:=decide (a.code=b.code)&&(decide (a.dn=b.dn)&&(decide (a.text=b.text)&&decide (a.refs=b.refs)))
theorem sameResult_fn(a b:Res)(ha:a.refs.length≤1000000000):Fn Tryz.prog X 31 [.v (.agg (cRes a)),.v (.agg (cRes b))] (.v (.bool (sameR a b))):=by
 have ht:=Fi.texts_fn (X:=X) a.refs b.refs ha
 unfold sameR
 by_cases h1:a.code=b.code <;> by_cases h2:a.dn=b.dn <;> by_cases h3:a.text=b.text
 all_goals
  simp only[h1,h2,h3,decide_true,decide_false,Bool.true_and,Bool.false_and]
  refine fn_prog tabOk mixed Tryz.f31 Tryz.func31 (by kernel_rfl) (by kernel_rfl) ?_
  conv=>whnf
  (repeat' (first | ((refine⟨rfl,cmp_true h1 ?_⟩) <;> (conv=>whnf)) | ((refine⟨rfl,cmp_false h1 ?_⟩) <;> (conv=>whnf)) | ((refine cmp_true h2 ?_) <;> (conv=>whnf)) | ((refine cmp_false h2 ?_) <;> (conv=>whnf)) | ((refine cmp_true h3 ?_) <;> (conv=>whnf)) | ((refine cmp_false h3 ?_) <;> (conv=>whnf)) | (((with_reducible apply st_call (ht));(focus ((repeat' first|exact trivial|exact rfl|exact .inl rfl|exact .inr ⟨rfl,rfl⟩|refine And.intro ?_ ?_);done));(focus (exact rfl));(focus (exact rfl))) <;> (conv=>whnf)) | fail))
  (focus ((repeat' first|exact trivial|exact rfl|exact .inl rfl|exact .inr ⟨rfl,rfl⟩|refine And.intro ?_ ?_);done))
end Go.Proofs.YtknelogmocedeaaGreatDoor.Pa
namespace Go.Proofs.YtknelogmocedeaaGreatDoor.Tl
open Go.RowKit Go.Shelf Go.Lib
open Fl (bl bt' bl_bt bl_of size_bl)
set_option linter.unusedVariables false
variable {X : En}
def cut4(s:ByteArray):ByteArray:=s.extract 0 (min s.size 4000)
def cutT:Nat→Nd→Nd
 | 0,.mk t x _=>.mk t (cut4 x) []
 | d+1,.mk t x k=>.mk t (cut4 x) ((k.take 60).map (cutT d))
def cutsT:Nat→Nd→List Nd
 | 0,_=>[]
 | d+1,n=>(n.kids.take 60).map (cutT d)
theorem cutT_eq:∀(d:Nat) (n:Nd),cutT d n=.mk n.tag (cut4 n.data) (cutsT d n)
 | 0,.mk t x _=>rfl
 | d+1,.mk t x k=>rfl
set_option maxHeartbeats 4000000 in
theorem cutAt_one(d:Nat)(n:Nd)(hd:d≤100)(hrec:∀e,d=e+1→∀x:Nd,Fn Tryz.prog X 67 [.v (.agg (cM x)),.v (.int .i64 ((e+1:Nat):Int))] (.v (.agg (cM (cutT e x))))):Fn Tryz.prog X 67 [.v (.agg (cM n)),.v (.int .i64 ((d+1:Nat):Int))] (.v (.agg (cM (cutT d n)))):=by
 refine fn_prog tabOk mixed Tryz.f67 Tryz.func67 (by kernel_rfl) (by kernel_rfl) ?_
 conv=>whnf
 refine⟨none,by kernel_rfl,?_⟩;conv=>whnf
 refine st_min 4000 ?_
 conv=>whnf
 refine st_cut 0 (min n.data.size 4000) rfl rfl (by omega) (by omega) ?_
 conv=>whnf
 refine⟨Nat,fun j=>⟨46,[(1,.v (.int .i64 ((d+1:Nat):Int))),(2,.ptr 2 0),(4,.ptr 4 0),(5,.ptr 5 0),(6,.v (.int .i64 (j:Nat)))],[(2,(cM n).map .v),(4,[.v (.int .i64 0),.v (.str (bt' [])),.v .nils]),(5,[.v (.int .i64 n.tag),.v (.str (cut4 n.data)),.own 43 29 ((n.kids.take j).map fun x=>cM (cutT (d - 1) x))])],[(43,some 29)]⟩,fun j=>j≤n.kids.length∧j≤60∧(d=0→j=0),fun j=>n.kids.length - j,⟨0,[(43,none)],⟨by omega,by omega,fun _=>rfl⟩,?_⟩,fun j ⟨hj,hj10,hd0⟩=>?_⟩
 ·(focus ((repeat' first|exact trivial|exact rfl|exact .inl rfl|exact .inr ⟨rfl,rfl⟩|refine And.intro ?_ ?_);done))
 conv=>whnf
 refine⟨rfl,cmp_split (fun h=>?_) (fun h=>?_)⟩
 have hjl:j < n.kids.length:=by rw[List.length_map] at h;omega
 conv=>whnf
 refine⟨rfl,cmp_split (fun h2=>?_) (fun h2=>?_)⟩
 conv=>whnf
 refine⟨rfl,cmp_split (fun h3=>?_) (fun h3=>?_)⟩
 ·conv=>whnf
  refine⟨none,by kernel_rfl,?_⟩;conv=>whnf
  refine st_idxN hjl ?_
  conv=>whnf
  obtain⟨e,rfl⟩:∃e,d=e+1:=⟨d - 1,by omega⟩
  refine st_minus (e+1+1) 1 (by omega) (by omega) ?_
  conv=>whnf
  (refine st_call (hrec e rfl n.kids[j]) ?_ rfl rfl ?_;(focus ((repeat' first|exact trivial|exact rfl|exact .inl rfl|exact .inr ⟨rfl,rfl⟩|refine And.intro ?_ ?_);done));conv=>whnf)
  refine st_app (by simp;omega) (by simp[V.cells]) (map_take_succ (enc:=fun x=>cM (cutT e x)) hjl) ?_
  conv=>whnf
  refine⟨rfl,st_succ (by omega) ?_⟩
  conv=>whnf
  refine⟨j+1,[(43,some 43)],⟨by omega,by omega,fun h=>by omega⟩,by dsimp only;omega,?_⟩
  (focus ((repeat' first|exact trivial|exact rfl|exact .inl rfl|exact .inr ⟨rfl,rfl⟩|refine And.intro ?_ ?_);done))
 all_goals
  have hl:((n.kids.take j).map fun x=>cM (cutT (d - 1) x))=(cutsT d n).map cN:=by
   rw[List.length_map] at h
   cases d with
   | zero=>rw[hd0 rfl];rfl
   | succ e=>
    show _=((n.kids.take 60).map (cutT e)).map cN
    rw[List.map_map,show n.kids.take j=n.kids.take 60 by
     by_cases h10:n.kids.length≤j
     ·rw[List.take_of_length_le h10,List.take_of_length_le (by omega)]
     ·rw[show j=60 by omega]]
    exact List.map_congr_left fun x _=>(cM_eq _).symm
  conv=>whnf
  rw[hl,cutT_eq]
  exact⟨.inl rfl,rfl⟩
theorem cutAt_fn:∀(d:Nat),d≤100→∀n:Nd,Fn Tryz.prog X 67 [.v (.agg (cM n)),.v (.int .i64 ((d+1:Nat):Int))] (.v (.agg (cM (cutT d n))))
 | 0,hd,n=>cutAt_one 0 n hd (fun e h=>by cases h)
 | d+1,hd,n=>cutAt_one (d+1) n hd (fun e h x=>by
   obtain rfl:d=e:=by omega
   exact cutAt_fn d (by omega) x)
end Go.Proofs.YtknelogmocedeaaGreatDoor.Tl
namespace Go.Proofs.YtknelogmocedeaaGreatDoor.Pa
open Go.RowKit Go.Shelf Go.Lib Tl Pr
open Fl (bl bt' bl_bt bl_of size_bl)
open Fi (one_arg encS all_take_succ all_bad)
set_option linter.unusedVariables false
variable {X : En}
def cutB(n:Nat)(s:ByteArray):ByteArray:=s.extract 0 (min s.size n)
theorem cutB_size(n:Nat)(s:ByteArray):(cutB n s).size≤n:=by unfold cutB;rw[ByteArray.size_extract];omega
theorem cut_fn(s:ByteArray)(n:Nat):Fn Tryz.prog X 15 [.v (.str s),.v (.int .i64 (n:Nat))] (.v (.str (cutB n s))):=by
 refine fn_prog tabOk mixed Tryz.f15 Tryz.func15 (by kernel_rfl) (by kernel_rfl) ?_
 conv=>whnf
 refine st_min n ?_
 conv=>whnf
 refine st_cut 0 (min s.size n) rfl rfl (by omega) (by omega) ?_
 conv=>whnf
 (focus ((repeat' first|exact trivial|exact rfl|exact .inl rfl|exact .inr ⟨rfl,rfl⟩|refine And.intro ?_ ?_);done))
def cutS(l:List ByteArray):List ByteArray:=(l.take 8).map (cutB 201)
theorem texts8_fn(l:List ByteArray):Fn Tryz.prog X 43 [.v (.sl (l.map encS))] (.v (.sl ((cutS l).map encS))):=by
 refine fn_prog tabOk mixed Tryz.f43 Tryz.func43 (by kernel_rfl) (by kernel_rfl) ?_
 conv=>whnf
 refine⟨Nat,fun i=>⟨24,[(0,.v (.sl (l.map encS))),(3,.own 22 9 (((l.take i).map (cutB 201)).map encS)),(4,.v (.int .i64 (i:Nat)))],[],[(22,some 9)]⟩,fun i=>i≤l.length∧i≤8,fun i=>8 - i,⟨0,[(22,none)],⟨Nat.zero_le _,by omega⟩,?_⟩,fun i ⟨hi,h8⟩=>?_⟩
 ·(focus ((repeat' first|exact trivial|exact rfl|exact .inl rfl|exact .inr ⟨rfl,rfl⟩|refine And.intro ?_ ?_);done))
 conv=>whnf
 refine⟨rfl,cmp_split (fun h=>?_) (fun h=>?_)⟩
 ·rw[List.length_map] at h
  have hil:i < l.length:=by omega
  conv=>whnf
  refine⟨rfl,cmp_split (fun h2=>?_) (fun h2=>?_)⟩
  ·conv=>whnf
   refine st_idx hil rfl ?_
   conv=>whnf
   (refine st_call (cut_fn l[i] 201) ?_ rfl rfl ?_;(focus ((repeat' first|exact trivial|exact rfl|exact .inl rfl|exact .inr ⟨rfl,rfl⟩|refine And.intro ?_ ?_);done));conv=>whnf)
   refine st_app (by simp;omega) (by intro c hc;simp at hc;rw[hc];rfl) (show(((l.take i).map (cutB 201)).map encS)++[encS (cutB 201 l[i])]=((l.take (i+1)).map (cutB 201)).map encS from by rw[List.take_succ_eq_append_getElem hil,List.map_append,List.map_append];rfl) ?_
   conv=>whnf
   refine⟨rfl,st_succ (by omega) ?_⟩
   conv=>whnf
   refine⟨i+1,[(22,some 22)],⟨hil,by omega⟩,by dsimp only;omega,?_⟩
   (focus ((repeat' first|exact trivial|exact rfl|exact .inl rfl|exact .inr ⟨rfl,rfl⟩|refine And.intro ?_ ?_);done))
  ·conv=>whnf
   rw[show l.take i=l.take 8 by rw[show i=8 by omega]]
   (focus ((repeat' first|exact trivial|exact rfl|exact .inl rfl|exact .inr ⟨rfl,rfl⟩|refine And.intro ?_ ?_);done))
 ·rw[List.length_map] at h
  conv=>whnf
  rw[show l.take i=l.take 8 by rw[List.take_of_length_le (by omega),List.take_of_length_le (by omega)]]
  (focus ((repeat' first|exact trivial|exact rfl|exact .inl rfl|exact .inr ⟨rfl,rfl⟩|refine And.intro ?_ ?_);done))
def CutC(c:Ctl):Ctl:=⟨cutB 40 c.oid,c.crit,cutB 201 c.val,c.has⟩
theorem CutC_fn(c:Ctl):Fn Tryz.prog X 20 [.v (.agg (cCtl c))] (.v (.agg (cCtl (CutC c)))):=by
 refine fn_prog tabOk mixed Tryz.f20 Tryz.func20 (by kernel_rfl) (by kernel_rfl) ?_
 conv=>whnf
 (refine st_call (cut_fn c.oid 40) ?_ rfl rfl ?_;(focus ((repeat' first|exact trivial|exact rfl|exact .inl rfl|exact .inr ⟨rfl,rfl⟩|refine And.intro ?_ ?_);done));conv=>whnf)
 (refine st_call (cut_fn c.val 201) ?_ rfl rfl ?_;(focus ((repeat' first|exact trivial|exact rfl|exact .inl rfl|exact .inr ⟨rfl,rfl⟩|refine And.intro ?_ ?_);done));conv=>whnf)
 (focus ((repeat' first|exact trivial|exact rfl|exact .inl rfl|exact .inr ⟨rfl,rfl⟩|refine And.intro ?_ ?_);done))
def CutA(a:Att):Att:=⟨cutB 61 a.name,cutS a.vals⟩
theorem CutA_fn(a:Att):Fn Tryz.prog X 12 [.v (.agg (cAtt a))] (.v (.agg (cAtt (CutA a)))):=by
 refine fn_prog tabOk mixed Tryz.f12 Tryz.func12 (by kernel_rfl) (by kernel_rfl) ?_
 conv=>whnf
 refine⟨some [0,1,3,4,2,5,6,7],by kernel_rfl,?_⟩;conv=>whnf
 (refine st_call (cut_fn a.name 61) ?_ rfl rfl ?_;(focus ((repeat' first|exact trivial|exact rfl|exact .inl rfl|exact .inr ⟨rfl,rfl⟩|refine And.intro ?_ ?_);done));conv=>whnf)
 (refine st_call (texts8_fn a.vals) ?_ rfl rfl ?_;(focus ((repeat' first|exact trivial|exact rfl|exact .inl rfl|exact .inr ⟨rfl,rfl⟩|refine And.intro ?_ ?_);done));conv=>whnf)
 (focus ((repeat' first|exact trivial|exact rfl|exact .inl rfl|exact .inr ⟨rfl,rfl⟩|refine And.intro ?_ ?_);done))
def CutH(c:Chg):Chg:=⟨c.kind,CutA c.att⟩
theorem CutH_fn(c:Chg):Fn Tryz.prog X 23 [.v (.agg (cChg c))] (.v (.agg (cChg (CutH c)))):=by
 refine fn_prog tabOk mixed Tryz.f23 Tryz.func23 (by kernel_rfl) (by kernel_rfl) ?_
 conv=>whnf
 refine⟨none,by kernel_rfl,?_⟩;conv=>whnf
 (refine st_call (CutA_fn c.att) ?_ rfl rfl ?_;(focus ((repeat' first|exact trivial|exact rfl|exact .inl rfl|exact .inr ⟨rfl,rfl⟩|refine And.intro ?_ ?_);done));conv=>whnf)
 (focus ((repeat' first|exact trivial|exact rfl|exact .inl rfl|exact .inr ⟨rfl,rfl⟩|refine And.intro ?_ ?_);done))
def CutR(r:Res):Res:=⟨r.code,cutB 201 r.dn,cutB 61 r.text,cutS r.refs⟩
theorem CutR_fn(r:Res):Fn Tryz.prog X 24 [.v (.agg (cRes r))] (.v (.agg (cRes (CutR r)))):=by
 refine fn_prog tabOk mixed Tryz.f24 Tryz.func24 (by kernel_rfl) (by kernel_rfl) ?_
 conv=>whnf
 refine⟨some [0,1,2,3,5,6,8,9,4,7,10,11,12],by kernel_rfl,?_⟩;conv=>whnf
 (refine st_call (cut_fn r.dn 201) ?_ rfl rfl ?_;(focus ((repeat' first|exact trivial|exact rfl|exact .inl rfl|exact .inr ⟨rfl,rfl⟩|refine And.intro ?_ ?_);done));conv=>whnf)
 (refine st_call (cut_fn r.text 61) ?_ rfl rfl ?_;(focus ((repeat' first|exact trivial|exact rfl|exact .inl rfl|exact .inr ⟨rfl,rfl⟩|refine And.intro ?_ ?_);done));conv=>whnf)
 (refine st_call (texts8_fn r.refs) ?_ rfl rfl ?_;(focus ((repeat' first|exact trivial|exact rfl|exact .inl rfl|exact .inr ⟨rfl,rfl⟩|refine And.intro ?_ ?_);done));conv=>whnf)
 (focus ((repeat' first|exact trivial|exact rfl|exact .inl rfl|exact .inr ⟨rfl,rfl⟩|refine And.intro ?_ ?_);done))
theorem cutS_len(l:List ByteArray):(cutS l).length≤8:=by unfold cutS;simp;omega
theorem cutS_size(l:List ByteArray):∀s∈cutS l,s.size≤201:=fun s hs=>by
 obtain⟨x,_,rfl⟩:=List.mem_map.1 hs
 exact cutB_size _ _
theorem CutA_mid(a:Att):midA (CutA a):=⟨by have:=cutB_size 61 a.name;show(cutB 61 a.name).size≤_;omega,by have:=cutS_len a.vals;show(cutS a.vals).length≤_;omega⟩
theorem CutR_mid(r:Res):midR (CutR r):=⟨by have:=cutB_size 201 r.dn;show(cutB 201 r.dn).size≤_;omega,by have:=cutB_size 61 r.text;show(cutB 61 r.text).size≤_;omega,by have:=cutS_len r.refs;show(cutS r.refs).length≤_;omega,fun s hs=>by have:=cutS_size r.refs s hs;omega⟩
end Go.Proofs.YtknelogmocedeaaGreatDoor.Pa
namespace Go.Proofs.YtknelogmocedeaaGreatDoor.Ms
open Go.RowKit Go.Shelf Go.Lib Tl Pr Pa
open Fl (bl bt' bl_bt bl_of size_bl Flt)
open Fi (one_arg encS cF cG CutF CutF_fn)
set_option linter.unusedVariables false
variable {X : En}
def cSch(s:Sch):List V:=[.int .i64 s.scope,.int .i64 s.deref,.int .i64 s.size,.int .i64 s.time,.bool s.types,.int .i64 s.filt.kind,.str s.filt.name,.str s.filt.value,.sl (s.filt.any.map encS),.str s.filt.final,.sl (s.filt.l.map cF),.sl (s.names.map encS)]
def cMov(m:Mov):List V:=[.str m.rdn,.bool m.del,.str m.sup,.bool m.has]
def cBnd(m:Bnd):List V:=[.bool m.simple,.str m.auth,.str m.mech,.bool m.has]
def cXt(m:Xt):List V:=[.str m.oid,.str m.val,.bool m.has]
def cMsg(m:Msg):List V:=[.int .i64 m.id,.int .i64 m.op,.str m.dn,.sl (m.attrs.map cAtt),.sl (m.changes.map cChg),
 .int .i64 m.search.scope,.int .i64 m.search.deref,.int .i64 m.search.size,.int .i64 m.search.time,.bool m.search.types,.int .i64 m.search.filt.kind,.str m.search.filt.name,.str m.search.filt.value,.sl (m.search.filt.any.map encS),.str m.search.filt.final,.sl (m.search.filt.l.map cF),.sl (m.search.names.map encS),
 .str m.move.rdn,.bool m.move.del,.str m.move.sup,.bool m.move.has,.bool m.bind.simple,.str m.bind.auth,.str m.bind.mech,.bool m.bind.has,.str m.ext.oid,.str m.ext.val,.bool m.ext.has,
 .int .i64 m.result.code,.str m.result.dn,.str m.result.text,.sl (m.result.refs.map encS),.sl (m.refs.map encS),.int .i64 m.target,.sl (m.controls.map cCtl)]
def bMsg(m:Msg):List T:=(cMsg m).map .v
theorem cut201_fn(s:ByteArray):Fn Tryz.prog X 70 [.v (.str s)] (.v (.str (cutB 201 s))):=by
 refine fn_prog tabOk mixed Tryz.f70 Tryz.func70 (by kernel_rfl) (by kernel_rfl) ?_
 conv=>whnf
 refine st_min 201 ?_
 conv=>whnf
 refine st_cut 0 (min s.size 201) rfl rfl (by omega) (by omega) ?_
 conv=>whnf
 (focus ((repeat' first|exact trivial|exact rfl|exact .inl rfl|exact .inr ⟨rfl,rfl⟩|refine And.intro ?_ ?_);done))
def CutM(m:Msg):Msg:={m with
 dn:=cutB 201 m.dn,attrs:=(m.attrs.take 8).map CutA,changes:=(m.changes.take 8).map CutH,controls:=(m.controls.take 8).map CutC
 search:={m.search with filt:=CutF m.search.filt,names:=cutS m.search.names}
 move:={m.move with rdn:=cutB 201 m.move.rdn,sup:=cutB 201 m.move.sup}
 bind:={m.bind with auth:=cutB 201 m.bind.auth,mech:=cutB 201 m.bind.mech}
 ext:={m.ext with oid:=cutB 201 m.ext.oid,val:=cutB 201 m.ext.val}
 result:=CutR m.result,refs:=cutS m.refs}
set_option maxHeartbeats 8000000 in
theorem CutM_fn(m:Msg):Fn Tryz.prog X 36 [.v (.agg (cMsg m))] (.v (.agg (cMsg (CutM m)))):=by
 refine fn_prog tabOk mixed Tryz.f36 Tryz.func36 (by kernel_rfl) (by kernel_rfl) ?_
 conv=>whnf
 (refine st_call (cut201_fn m.dn) ?_ rfl rfl ?_;(focus ((repeat' first|exact trivial|exact rfl|exact .inl rfl|exact .inr ⟨rfl,rfl⟩|refine And.intro ?_ ?_);done));conv=>whnf)
 refine⟨Nat,fun i=>⟨136,[(1,.ptr 1 0),(2,.ptr 2 0),(3,.own 32 24 (((m.attrs.take i).map CutA).map cAtt)),(4,.v (.int .i64 (i:Nat)))],[(1,bMsg {m with dn:=cutB 201 m.dn}),(2,bMsg msg0)],[(32,some 24)]⟩,fun i=>i≤m.attrs.length∧i≤8,fun i=>8 - i,⟨0,[(32,none)],⟨Nat.zero_le _,by omega⟩,?_⟩,fun i ⟨hi,h8⟩=>?_⟩
 ·(focus ((repeat' first|exact trivial|exact rfl|exact .inl rfl|exact .inr ⟨rfl,rfl⟩|refine And.intro ?_ ?_);done))
 conv=>whnf
 refine⟨rfl,cmp_split (fun h=>?_) (fun h=>?_)⟩ <;> rw[List.length_map] at h <;> dsimp only at h
 have hil:i < m.attrs.length:=by omega
 conv=>whnf
 refine⟨rfl,cmp_split (fun h2=>?_) (fun h2=>?_)⟩
 ·conv=>whnf
  refine st_idx hil rfl ?_
  conv=>whnf
  (refine st_call (CutA_fn m.attrs[i]) ?_ rfl rfl ?_;(focus ((repeat' first|exact trivial|exact rfl|exact .inl rfl|exact .inr ⟨rfl,rfl⟩|refine And.intro ?_ ?_);done));conv=>whnf)
  refine st_app (by simp;omega) (by intro c hc;simp at hc;rw[hc];rfl) (show(((m.attrs.take i).map CutA).map cAtt)++[cAtt (CutA m.attrs[i])]=((m.attrs.take (i+1)).map CutA).map cAtt from by rw[List.take_succ_eq_append_getElem hil,List.map_append,List.map_append];rfl) ?_
  conv=>whnf
  refine⟨rfl,st_succ (by omega) ?_⟩
  conv=>whnf
  refine⟨i+1,[(32,some 32)],⟨hil,by omega⟩,by dsimp only;omega,?_⟩
  (focus ((repeat' first|exact trivial|exact rfl|exact .inl rfl|exact .inr ⟨rfl,rfl⟩|refine And.intro ?_ ?_);done))
 all_goals
  have ht:m.attrs.take i=m.attrs.take 8:=by
   first
    | (rw[show i=8 by omega])
    | (rw[List.take_of_length_le (by omega),List.take_of_length_le (by omega)])
  clear h
  conv=>whnf
  rw[ht]
  refine⟨Nat,fun i=>⟨136,[(1,.ptr 1 0),(2,.ptr 2 0),(5,.own 54 49 (((m.changes.take i).map CutH).map cChg)),(6,.v (.int .i64 (i:Nat)))],[(1,bMsg {m with dn:=cutB 201 m.dn,attrs:=(m.attrs.take 8).map CutA}),(2,bMsg msg0)],[(54,some 49)]⟩,fun i=>i≤m.changes.length∧i≤8,fun i=>8 - i,⟨0,[(54,none)],⟨Nat.zero_le _,by omega⟩,?_⟩,fun i ⟨hi,h8⟩=>?_⟩
  ·(focus ((repeat' first|exact trivial|exact rfl|exact .inl rfl|exact .inr ⟨rfl,rfl⟩|refine And.intro ?_ ?_);done))
  conv=>whnf
  refine⟨rfl,cmp_split (fun h=>?_) (fun h=>?_)⟩ <;> rw[List.length_map] at h <;> dsimp only at h
  have hil:i < m.changes.length:=by omega
  conv=>whnf
  refine⟨rfl,cmp_split (fun h2=>?_) (fun h2=>?_)⟩
  ·conv=>whnf
   refine st_idx hil rfl ?_
   conv=>whnf
   (refine st_call (CutH_fn m.changes[i]) ?_ rfl rfl ?_;(focus ((repeat' first|exact trivial|exact rfl|exact .inl rfl|exact .inr ⟨rfl,rfl⟩|refine And.intro ?_ ?_);done));conv=>whnf)
   refine st_app (by simp;omega) (by intro c hc;simp at hc;rw[hc];rfl) (show(((m.changes.take i).map CutH).map cChg)++[cChg (CutH m.changes[i])]=((m.changes.take (i+1)).map CutH).map cChg from by rw[List.take_succ_eq_append_getElem hil,List.map_append,List.map_append];rfl) ?_
   conv=>whnf
   refine⟨rfl,st_succ (by omega) ?_⟩
   conv=>whnf
   refine⟨i+1,[(54,some 54)],⟨hil,by omega⟩,by dsimp only;omega,?_⟩
   (focus ((repeat' first|exact trivial|exact rfl|exact .inl rfl|exact .inr ⟨rfl,rfl⟩|refine And.intro ?_ ?_);done))
  all_goals
   have ht:m.changes.take i=m.changes.take 8:=by
    first
     | (rw[show i=8 by omega])
     | (rw[List.take_of_length_le (by omega),List.take_of_length_le (by omega)])
   clear h
   conv=>whnf
   rw[ht]
   refine⟨Nat,fun i=>⟨136,[(1,.ptr 1 0),(2,.ptr 2 0),(7,.own 76 41 (((m.controls.take i).map CutC).map cCtl)),(8,.v (.int .i64 (i:Nat)))],[(1,bMsg {m with dn:=cutB 201 m.dn,attrs:=(m.attrs.take 8).map CutA,changes:=(m.changes.take 8).map CutH}),(2,bMsg msg0)],[(76,some 41)]⟩,fun i=>i≤m.controls.length∧i≤8,fun i=>8 - i,⟨0,[(76,none)],⟨Nat.zero_le _,by omega⟩,?_⟩,fun i ⟨hi,h8⟩=>?_⟩
   ·(focus ((repeat' first|exact trivial|exact rfl|exact .inl rfl|exact .inr ⟨rfl,rfl⟩|refine And.intro ?_ ?_);done))
   conv=>whnf
   refine⟨rfl,cmp_split (fun h=>?_) (fun h=>?_)⟩ <;> rw[List.length_map] at h <;> dsimp only at h
   have hil:i < m.controls.length:=by omega
   conv=>whnf
   refine⟨rfl,cmp_split (fun h2=>?_) (fun h2=>?_)⟩
   ·conv=>whnf
    refine st_idx hil rfl ?_
    conv=>whnf
    (refine st_call (CutC_fn m.controls[i]) ?_ rfl rfl ?_;(focus ((repeat' first|exact trivial|exact rfl|exact .inl rfl|exact .inr ⟨rfl,rfl⟩|refine And.intro ?_ ?_);done));conv=>whnf)
    refine st_app (by simp;omega) (by intro c hc;simp at hc;rw[hc];rfl) (show(((m.controls.take i).map CutC).map cCtl)++[cCtl (CutC m.controls[i])]=((m.controls.take (i+1)).map CutC).map cCtl from by rw[List.take_succ_eq_append_getElem hil,List.map_append,List.map_append];rfl) ?_
    conv=>whnf
    refine⟨rfl,st_succ (by omega) ?_⟩
    conv=>whnf
    refine⟨i+1,[(76,some 76)],⟨hil,by omega⟩,by dsimp only;omega,?_⟩
    (focus ((repeat' first|exact trivial|exact rfl|exact .inl rfl|exact .inr ⟨rfl,rfl⟩|refine And.intro ?_ ?_);done))
   all_goals
    have ht:m.controls.take i=m.controls.take 8:=by
     first
      | (rw[show i=8 by omega])
      | (rw[List.take_of_length_le (by omega),List.take_of_length_le (by omega)])
    clear h
    conv=>whnf
    rw[ht]
    (refine st_call (CutF_fn m.search.filt) ?_ rfl rfl ?_;(focus ((repeat' first|exact trivial|exact rfl|exact .inl rfl|exact .inr ⟨rfl,rfl⟩|refine And.intro ?_ ?_);done));conv=>whnf)
    (refine st_call (texts8_fn m.search.names) ?_ rfl rfl ?_;(focus ((repeat' first|exact trivial|exact rfl|exact .inl rfl|exact .inr ⟨rfl,rfl⟩|refine And.intro ?_ ?_);done));conv=>whnf)
    (refine st_call (cut201_fn m.move.rdn) ?_ rfl rfl ?_;(focus ((repeat' first|exact trivial|exact rfl|exact .inl rfl|exact .inr ⟨rfl,rfl⟩|refine And.intro ?_ ?_);done));conv=>whnf)
    (refine st_call (cut201_fn m.move.sup) ?_ rfl rfl ?_;(focus ((repeat' first|exact trivial|exact rfl|exact .inl rfl|exact .inr ⟨rfl,rfl⟩|refine And.intro ?_ ?_);done));conv=>whnf)
    (refine st_call (cut201_fn m.bind.auth) ?_ rfl rfl ?_;(focus ((repeat' first|exact trivial|exact rfl|exact .inl rfl|exact .inr ⟨rfl,rfl⟩|refine And.intro ?_ ?_);done));conv=>whnf)
    (refine st_call (cut201_fn m.bind.mech) ?_ rfl rfl ?_;(focus ((repeat' first|exact trivial|exact rfl|exact .inl rfl|exact .inr ⟨rfl,rfl⟩|refine And.intro ?_ ?_);done));conv=>whnf)
    (refine st_call (cut201_fn m.ext.oid) ?_ rfl rfl ?_;(focus ((repeat' first|exact trivial|exact rfl|exact .inl rfl|exact .inr ⟨rfl,rfl⟩|refine And.intro ?_ ?_);done));conv=>whnf)
    (refine st_call (cut201_fn m.ext.val) ?_ rfl rfl ?_;(focus ((repeat' first|exact trivial|exact rfl|exact .inl rfl|exact .inr ⟨rfl,rfl⟩|refine And.intro ?_ ?_);done));conv=>whnf)
    (refine st_call (CutR_fn m.result) ?_ rfl rfl ?_;(focus ((repeat' first|exact trivial|exact rfl|exact .inl rfl|exact .inr ⟨rfl,rfl⟩|refine And.intro ?_ ?_);done));conv=>whnf)
    (refine st_call (texts8_fn m.refs) ?_ rfl rfl ?_;(focus ((repeat' first|exact trivial|exact rfl|exact .inl rfl|exact .inr ⟨rfl,rfl⟩|refine And.intro ?_ ?_);done));conv=>whnf)
    (focus ((repeat' first|exact trivial|exact rfl|exact .inl rfl|exact .inr ⟨rfl,rfl⟩|refine And.intro ?_ ?_);done))
end Go.Proofs.YtknelogmocedeaaGreatDoor.Ms
namespace Go.Proofs.YtknelogmocedeaaGreatDoor.Rp
open Go.Lib Tl Pr Pa Fl Ms
set_option linter.unusedVariables false
structure Shp where
 res:Bool
 val:Bool
 oid:Bool
 ent:Bool
 refs:Bool
 oidT:Int
 valT:Int
def shp0:Shp:=⟨false,false,false,false,false,0,0⟩
def shapeF(op:Int):Option Shp:=
 if op=24 then some ⟨true,true,true,false,false,138,139⟩
 else if op=1 then some ⟨true,true,false,false,false,0,135⟩
 else if op=5∨op=7∨op=9∨op=11∨op=13∨op=15 then some ⟨true,false,false,false,false,0,0⟩
 else if op=4 then some ⟨false,false,false,true,false,0,0⟩
 else if op=19 then some ⟨false,false,false,false,true,0,0⟩
 else if op=25 then some ⟨false,true,true,false,false,128,129⟩
 else none
def emptyR(r:Res):Bool:=decide (r.code=0)&&(decide (r.dn.size=0)&&(decide (r.text.size=0)&&decide (r.refs=[])))
def emptyF(f:Flt):Bool:=decide (f.kind=0)&&(decide (f.name.size=0)&&(decide (f.value.size=0)&&(decide (f.final.size=0)&&(decide (f.any=[])&&f.l.isEmpty))))
def emptyS(s:Sch):Bool:=decide (s.scope=0)&&(decide (s.deref=0)&&(decide (s.size=0)&&(decide (s.time=0)&&(!s.types&&(decide (s.names=[])&&emptyF s.filt)))))
def notReq(m:Msg):Bool:=emptyS m.search&&(m.changes.isEmpty&&(movE m.move mov0&&(bndE m.bind bnd0&&(decide (m.target=0)&&(decide (m.id=0)&&m.controls.isEmpty)))))
def onlyB(m:Msg)(s:Shp):Bool:=notReq m&&((s.res||emptyR m.result)&&((s.val||(!m.ext.has&&decide (m.ext.val.size=0)))&&((s.oid||decide (m.ext.oid.size=0))&&((s.ent||(decide (m.dn.size=0)&&m.attrs.isEmpty))&&(s.refs||decide (m.refs=[]))))))
def refB(s:ByteArray):Bool:=decide (s.size≠0)&&(decide (s.size≤60)&&Utf.utfB s)
def mayB(m:Msg)(s:Shp):Bool:=resB m.result&&((decide (m.ext.val.size≤200)&&(m.ext.has||decide (m.ext.val.size=0)))&&((decide (m.ext.oid.size=0)||oidB m.ext.oid)&&((decide (m.attrs.length≤6)&&m.attrs.all fun a=>attB a 0)&&((decide (m.refs.length≤3)&&(m.refs.all refB&&(!s.refs|| !decide (m.refs=[]))))&&dnB m.dn))))
def repS(m:Msg):Option Shp:=match shapeF m.op with
 | some s=>if onlyB m s=true∧mayB m s=true then some s else none
 | none=>none
def repB(m:Msg):Bool:=(repS m).isSome
def kidsN(m:Msg)(s:Shp):List Nd:=
 (if s.res=true then resN m.result else [])++((if s.ent=true then [leafN 4 m.dn,.mk 48 (bt' []) (m.attrs.map attN)] else [])++(m.refs.map (leafN 4)++((if m.ext.oid.size=0 then [] else [leafN s.oidT m.ext.oid])++if m.ext.has=true then [leafN s.valT m.ext.val] else [])))
def repN(m:Msg)(s:Shp):Nd:=.mk (96+m.op) (bt' []) (kidsN m s)
def lastD(tag:Int)(l:List Nd):(ByteArray×Bool)×List Nd:=match l.getLast? with
 | some x=>if x.tag=tag∧tag≠0 then((x.data,true),l.dropLast) else((bt' [],false),l)
 | none=>((bt' [],false),l)
def takeM(op:Int)(s:Shp)(l:List Nd):Msg:=
 let v:=lastD s.valT l
 let o:=lastD s.oidT v.2
 {msgO op with
  dn:=match s.ent,l with | true,[x,_]=>x.data | _,_=>bt' []
  attrs:=match s.ent,l with | true,[_,y]=>y.kids.map fun n=>(readA n 0).getD att0 | _,_=>[]
  refs:=if s.refs=true then l.map Nd.data else []
  ext:=⟨o.1.1,v.1.1,v.1.2⟩
  result:=if s.res=true then(readR o.2).getD res0 else res0}
def readP(n:Nd):Option Msg:=match shapeF (n.tag - 96) with
 | some s=>match repS (takeM (n.tag - 96) s n.kids) with
  | some s'=>if sameN (repN (takeM (n.tag - 96) s n.kids) s') n=true then some (takeM (n.tag - 96) s n.kids) else none
  | none=>none
 | none=>none
theorem shape_eq{op:Int}{s:Shp}(h:shapeF op=some s):
  (op=24∧s=⟨true,true,true,false,false,138,139⟩)∨(op=1∧s=⟨true,true,false,false,false,0,135⟩)∨((op=5∨op=7∨op=9∨op=11∨op=13∨op=15)∧s=⟨true,false,false,false,false,0,0⟩)∨(op=4∧s=⟨false,false,false,true,false,0,0⟩)∨(op=19∧s=⟨false,false,false,false,true,0,0⟩)∨(op=25∧s=⟨false,true,true,false,false,128,129⟩):=by
 unfold shapeF at h
 split at h
 ·cases h;exact .inl ⟨by assumption,rfl⟩
 split at h
 ·cases h;exact .inr (.inl ⟨by assumption,rfl⟩)
 split at h
 ·cases h;exact .inr (.inr (.inl ⟨by assumption,rfl⟩))
 split at h
 ·cases h;exact .inr (.inr (.inr (.inl ⟨by assumption,rfl⟩)))
 split at h
 ·cases h;exact .inr (.inr (.inr (.inr (.inl ⟨by assumption,rfl⟩))))
 split at h
 ·cases h;exact .inr (.inr (.inr (.inr (.inr ⟨by assumption,rfl⟩))))
 ·cases h
theorem emptyR_eq{r:Res}(h:emptyR r=true):r=res0:=by
 obtain⟨a,b,c,d⟩:=r
 unfold emptyR at h
 simp only[Bool.and_eq_true,decide_eq_true_eq] at h
 obtain⟨h1,h2,h3,h4⟩:=h
 rw[show res0=⟨0,bt' [],bt' [],[]⟩ from rfl,h1,h4,size_zero h2,size_zero h3]
theorem emptyS_eq{s:Sch}(h:emptyS s=true):s=sch0:=by
 obtain⟨a,b,c,d,e,f,g⟩:=s
 obtain⟨k,n,v,x,y,l⟩:=f
 unfold emptyS emptyF at h
 simp only[Bool.and_eq_true,decide_eq_true_eq,Bool.not_eq_true',List.isEmpty_iff] at h
 obtain⟨h1,h2,h3,h4,h5,h6,h7,h8,h9,h10,h11,h12⟩:=h
 obtain rfl:k=0:=h7
 obtain rfl:n=bt' []:=size_zero h8
 obtain rfl:v=bt' []:=size_zero h9
 obtain rfl:y=bt' []:=size_zero h10
 obtain rfl:x=[]:=h11
 obtain rfl:l=[]:=h12
 subst h1 h2 h3 h4 h5 h6
 rfl
theorem only_eq{m:Msg}{s:Shp}(h:onlyB m s=true):m={msgO m.op with dn:=m.dn,attrs:=m.attrs,ext:=m.ext,result:=m.result,refs:=m.refs}∧(s.res=false→m.result=res0)∧(s.val=false→m.ext.has=false∧m.ext.val=bt' [])∧(s.oid=false→m.ext.oid=bt' [])∧(s.ent=false→m.dn=bt' []∧m.attrs=[])∧(s.refs=false→m.refs=[]):=by
 unfold onlyB notReq at h
 simp only[Bool.and_eq_true,Bool.or_eq_true,decide_eq_true_eq,Bool.not_eq_true',List.isEmpty_iff] at h
 obtain⟨⟨h1,h2,h3,h4,h5,h6,h7⟩,g1,g2,g3,g4,g5⟩:=h
 refine⟨?_,fun e=>?_,fun e=>?_,fun e=>?_,fun e=>?_,fun e=>?_⟩
 ·obtain⟨a1,a2,a3,a4,a5,a6,a7,a8,a9,a10,a11,a12,a13⟩:=m
  have e1:a6=sch0:=emptyS_eq h1
  have e2:a5=[]:=h2
  have e3:a7=mov0:=(movE_iff _ _).1 h3
  have e4:a8=bnd0:=(bndE_iff _ _).1 h4
  have e5:a12=0:=h5
  have e6:a1=0:=h6
  have e7:a13=[]:=h7
  subst e1 e2 e3 e4 e5 e6 e7
  rfl
 ·rcases g1 with g | g
  ·rw[e] at g;cases g
  ·exact emptyR_eq g
 ·rcases g2 with g | g
  ·rw[e] at g;cases g
  ·exact⟨g.1,size_zero g.2⟩
 ·rcases g3 with g | g
  ·rw[e] at g;cases g
  ·exact size_zero g
 ·rcases g4 with g | g
  ·rw[e] at g;cases g
  ·exact⟨size_zero g.1,g.2⟩
 ·rcases g5 with g | g
  ·rw[e] at g;cases g
  ·exact g
theorem last_val(A:List Nd)(tag:Int)(d:ByteArray)(has:Bool)(ht:tag≠0∨has=false)(hd:has=false→d=bt' [])(hA:∀x∈A,x.tag≠tag∨tag=0):lastD tag (A++if has=true then [leafN tag d] else [])=((d,has),A):=by
 cases has
 ·rw[if_neg (by decide),List.append_nil,hd rfl]
  unfold lastD
  cases h:A.getLast? with
  | none=>rfl
  | some x=>
   dsimp only
   have hx:=List.mem_of_getLast? h
   rw[if_neg (fun e=>(hA x hx).elim (fun h=>h e.1) e.2)]
 ·rw[if_pos rfl]
  have h0:tag≠0:=ht.elim id (fun h=>by cases h)
  unfold lastD
  rw[List.getLast?_append]
  show(if tag=tag∧tag≠0 then((d,true),(A++[leafN tag d]).dropLast) else _)=_
  rw[if_pos ⟨rfl,h0⟩,List.dropLast_concat]
theorem resN_tag(r:Res):∀x∈resN r,x.tag=10∨x.tag=4∨x.tag=163:=by
 intro x hx
 unfold resN at hx
 rcases List.mem_append.1 hx with hx | hx
 ·simp only[List.mem_cons,List.not_mem_nil,or_false] at hx
  rcases hx with rfl | rfl | rfl
  ·exact .inl rfl
  ·exact .inr (.inl rfl)
  ·exact .inr (.inl rfl)
 ·split at hx
  ·rw[List.mem_singleton.1 hx];exact .inr (.inr rfl)
  ·cases hx
def headN(m:Msg)(s:Shp):List Nd:=(if s.res=true then resN m.result else [])++((if s.ent=true then [leafN 4 m.dn,.mk 48 (bt' []) (m.attrs.map attN)] else [])++m.refs.map (leafN 4))
theorem head_tag(m:Msg)(s:Shp):∀x∈headN m s,x.tag=10∨x.tag=4∨x.tag=163∨x.tag=48:=by
 intro x hx
 unfold headN at hx
 rcases List.mem_append.1 hx with hx | hx
 ·split at hx
  ·rcases resN_tag _ x hx with h | h | h
   ·exact .inl h
   ·exact .inr (.inl h)
   ·exact .inr (.inr (.inl h))
  ·cases hx
 ·rcases List.mem_append.1 hx with hx | hx
  ·split at hx
   ·simp only[List.mem_cons,List.not_mem_nil,or_false] at hx
    rcases hx with rfl | rfl
    ·exact .inr (.inl rfl)
    ·exact .inr (.inr (.inr rfl))
   ·cases hx
  ·obtain⟨y,_,rfl⟩:=List.mem_map.1 hx
   exact .inr (.inl rfl)
theorem kids_eq(m:Msg)(s:Shp):kidsN m s=(headN m s++if(!decide (m.ext.oid.size=0))=true then [leafN s.oidT m.ext.oid] else [])++if m.ext.has=true then [leafN s.valT m.ext.val] else []:=by
 unfold kidsN headN
 rw[show(if m.ext.oid.size=0 then [] else [leafN s.oidT m.ext.oid])=if(!decide (m.ext.oid.size=0))=true then [leafN s.oidT m.ext.oid] else [] by by_cases h:m.ext.oid.size=0 <;> simp[h]]
 simp only[List.append_assoc]
theorem read_map(l:List Att)(h:∀a∈l,attB a 0=true):(l.map attN).map (fun n=>(readA n 0).getD att0)=l:=by
 rw[List.map_map]
 refine(List.map_congr_left fun a ha=>?_).trans (List.map_id l)
 show(readA (attN a) 0).getD att0=a
 rw[read_att (h a ha)]
 rfl
theorem data_map(l:List ByteArray):(l.map (leafN 4)).map Nd.data=l:=by
 rw[List.map_map]
 exact(List.map_congr_left fun a _=>rfl).trans (List.map_id l)
theorem repS_some{m:Msg}{s:Shp}(h:repS m=some s):shapeF m.op=some s∧onlyB m s=true∧mayB m s=true:=by
 unfold repS at h
 cases hs:shapeF m.op with
 | none=>rw[hs] at h;cases h
 | some t=>
  rw[hs] at h
  dsimp only at h
  split at h
  ·cases h;rename_i g;exact⟨rfl,g⟩
  ·cases h
theorem take_rep{m:Msg}{s:Shp}(h:repS m=some s):takeM m.op s (kidsN m s)=m:=by
 obtain⟨h1,h2,h3⟩:=repS_some h
 obtain⟨e0,e1,e2,e3,e4,e5⟩:=only_eq h2
 unfold mayB at h3
 simp only[Bool.and_eq_true,Bool.or_eq_true,decide_eq_true_eq,List.all_eq_true] at h3
 obtain⟨r1,⟨_,r2⟩,_,⟨_,r3⟩,_⟩:=h3
 have hv:(s.valT≠0∨m.ext.has=false)∧(s.oidT≠0∨(!decide (m.ext.oid.size=0))=false)∧(∀x∈headN m s,x.tag≠s.oidT∨s.oidT=0)∧(∀x∈headN m s,x.tag≠s.valT∨s.valT=0)∧s.oidT≠s.valT∨(s.oidT=0∧s.valT=0∧m.ext.has=false∧m.ext.oid=bt' []):=by
  have ht:=head_tag m s
  rcases shape_eq h1 with⟨_,rfl⟩ | ⟨_,rfl⟩ | ⟨_,rfl⟩ | ⟨_,rfl⟩ | ⟨_,rfl⟩ | ⟨_,rfl⟩
  ·exact .inl ⟨.inl (by decide),.inl (by decide),fun x hx=>.inl (by have:=ht x hx;show x.tag≠138;omega),fun x hx=>.inl (by have:=ht x hx;show x.tag≠139;omega),by decide⟩
  ·exact .inl ⟨.inl (by decide),.inr (by rw[e3 rfl];rfl),fun x hx=>.inr rfl,fun x hx=>.inl (by have:=ht x hx;show x.tag≠135;omega),by decide⟩
  ·exact .inr ⟨rfl,rfl,(e2 rfl).1,e3 rfl⟩
  ·exact .inr ⟨rfl,rfl,(e2 rfl).1,e3 rfl⟩
  ·exact .inr ⟨rfl,rfl,(e2 rfl).1,e3 rfl⟩
  ·exact .inl ⟨.inl (by decide),.inl (by decide),fun x hx=>.inl (by have:=ht x hx;show x.tag≠128;omega),fun x hx=>.inl (by have:=ht x hx;show x.tag≠129;omega),by decide⟩
 have hval:m.ext.has=false→m.ext.val=bt' []:=fun e=>r2.elim (fun h=>by rw[e] at h;cases h) size_zero
 have hoid:(!decide (m.ext.oid.size=0))=false→m.ext.oid=bt' []:=fun e=>size_zero (by simpa using e)
 have hl:lastD s.valT (kidsN m s)=((m.ext.val,m.ext.has),headN m s++if(!decide (m.ext.oid.size=0))=true then [leafN s.oidT m.ext.oid] else [])∧lastD s.oidT (headN m s++if(!decide (m.ext.oid.size=0))=true then [leafN s.oidT m.ext.oid] else [])=((m.ext.oid, !decide (m.ext.oid.size=0)),headN m s):=by
  rw[kids_eq]
  rcases hv with⟨v1,v2,v3,v4,v5⟩ | ⟨v1,v2,v3,v4⟩
  ·refine⟨last_val _ _ _ _ v1 hval fun x hx=>?_,last_val _ _ _ _ v2 hoid v3⟩
   rcases List.mem_append.1 hx with hx | hx
   ·exact v4 x hx
   ·split at hx
    ·rw[List.mem_singleton.1 hx];exact .inl v5
    ·cases hx
  ·exact⟨last_val _ _ _ _ (.inr v3) hval fun x hx=>.inr v2,last_val _ _ _ _ (.inr (by rw[v4];rfl)) hoid fun x hx=>.inr v1⟩
 unfold takeM
 rw[hl.1]
 dsimp only
 rw[hl.2]
 dsimp only
 refine Eq.trans ?_ e0.symm
 have hx:(⟨m.ext.oid,m.ext.val,m.ext.has⟩:Xt)=m.ext:=rfl
 rw[hx]
 rcases shape_eq h1 with⟨_,rfl⟩ | ⟨_,rfl⟩ | ⟨_,rfl⟩ | ⟨_,rfl⟩ | ⟨_,rfl⟩ | ⟨_,rfl⟩
 ·have hh:headN m ⟨true,true,true,false,false,138,139⟩=resN m.result:=by unfold headN;rw[e5 rfl];simp
  rw[hh,read_res r1,(e4 rfl).1,(e4 rfl).2,e5 rfl]
  rfl
 ·have hh:headN m ⟨true,true,false,false,false,0,135⟩=resN m.result:=by unfold headN;rw[e5 rfl];simp
  rw[hh,read_res r1,(e4 rfl).1,(e4 rfl).2,e5 rfl]
  rfl
 ·have hh:headN m ⟨true,false,false,false,false,0,0⟩=resN m.result:=by unfold headN;rw[e5 rfl];simp
  rw[hh,read_res r1,(e4 rfl).1,(e4 rfl).2,e5 rfl]
  rfl
 ·have hk:kidsN m ⟨false,false,false,true,false,0,0⟩=[leafN 4 m.dn,.mk 48 (bt' []) (m.attrs.map attN)]:=by
   rw[kids_eq,(e2 rfl).1,e3 rfl];unfold headN;rw[e5 rfl];simp;rfl
  rw[hk,e5 rfl,e1 rfl]
  dsimp only
  rw[show(Nd.mk 48 (bt' []) (m.attrs.map attN)).kids=m.attrs.map attN from rfl,read_map _ r3]
  rfl
 ·have hk:kidsN m ⟨false,false,false,false,true,0,0⟩=m.refs.map (leafN 4):=by
   rw[kids_eq,(e2 rfl).1,e3 rfl];unfold headN;simp;rfl
  rw[hk,data_map,(e4 rfl).1,(e4 rfl).2,e1 rfl]
  rfl
 ·rw[(e4 rfl).1,(e4 rfl).2,e5 rfl,e1 rfl]
  rfl
theorem read_rep{m:Msg}{s:Shp}(h:repS m=some s):readP (repN m s)=some m:=by
 have h1:=(repS_some h).1
 have ht:=take_rep h
 unfold readP
 rw[show(repN m s).tag - 96=m.op by show 96+m.op - 96=m.op;omega,h1]
 dsimp only
 rw[show(repN m s).kids=kidsN m s from rfl,ht,h]
 dsimp only
 rw[if_pos (sameN_refl _)]
end Go.Proofs.YtknelogmocedeaaGreatDoor.Rp
namespace Go.Proofs.YtknelogmocedeaaGreatDoor.AsRep
open Go.RowKit Go.Extern.Stop Go.Stop Go.Extern AsG
theorem ok:Ok 192 193:=by
 refine⟨?_,?_,?_,?_,?_,?_,?_,?_,?_,?_,?_,?_,?_,?_,?_,Tryz.underlying193,?_⟩
 ·intros;kernel_rfl
 ·intros;kernel_rfl
 ·intros;kernel_rfl
 ·intros;kernel_rfl
 ·intros;kernel_rfl
 ·intros;kernel_rfl
 ·intros;kernel_rfl
 ·intros;kernel_rfl
 ·intros;kernel_rfl
 ·intros;kernel_rfl
 ·intros;kernel_rfl
 ·intros;kernel_rfl
 ·intros;kernel_rfl
 ·intros;kernel_rfl
 ·intros;kernel_rfl
 ·intro g b old0 x fr V hx hb ht
  have hl:=run_loadVar_row (P:=Tryz.prog) V b 192 192 #[x] fr _ hb Tryz.underlying192 rfl (by kernel_rfl)
  have hs:=run_storeVar_row (P:=Tryz.prog) V g 192 192 #[old0] #[x] ht (by kernel_rfl) rfl (by simp[hx])
  have p1:∀(a:Addr) (w:World),(ReflectliteValue.parts (.agg #[.pointer (some ⟨19,192,none⟩),.pointer (some a),.int .u64 409])).run Tryz.prog w=.ok (some (192,a,409)) w:=by intros;kernel_rfl
  have p2:∀(a:Addr) (w:World),(ReflectliteValue.parts (.agg #[.pointer (some ⟨19,192,none⟩),.pointer (some a),.int .u64 153])).run Tryz.prog w=.ok (some (192,a,153)) w:=by intros;kernel_rfl
  have p3:∀w:World,(Rtype.directlyAssignable 192 192).run Tryz.prog w=.ok true w:=by intros;kernel_rfl
  rw[rls]
  simp only[Sem.run_bind,p1,p2,Result.andThen]
  simp[ReflectliteValue.flagAddr,hl,hs,Result.andThen,p3]
theorem as_hit(g:Nat)(old0 x:Value)(w:World)(hx:x.oneCell'=true)(hg:w.cell? ⟨7,0,none⟩=some (.iface 263 (.agg #[.pointer (some ⟨19,98,none⟩)])))(ht:w.heap[g]? =some (.cells #[old0] 192 (0,0))):
  Calls Tryz.prog 85 #[.iface 192 (.agg #[x]),.iface 193 (.pointer (some ⟨g,0,none⟩))] w fun ev w'=>ev=.returned (.bool true)∧Below g w w'∧w'.heap[g]? =some (.cells #[x] 192 (0,0)):=AsG.as_hit ok g old0 x w hx hg ht
theorem as_nil(g:Nat)(old0:Value)(w:World)(ht:w.heap[g]? =some (.cells #[old0] 192 (0,0))):
  Calls Tryz.prog 85 #[.nilIface,.iface 193 (.pointer (some ⟨g,0,none⟩))] w fun ev w'=>ev=.returned (.bool false)∧Below w.heap.size w w':=AsG.as_nil 192 193 g old0 w ht
end Go.Proofs.YtknelogmocedeaaGreatDoor.AsRep
namespace Go.Proofs.YtknelogmocedeaaGreatDoor.IsRep
open Go.RowKit Go.Extern.Stop Go.Stop Go.Extern
theorem isTypeOf(v:Value)(w:World):(Extern.ReflectliteType.typeOf #[.iface 348 v]).run Tryz.prog w=.ok (.iface 263 (.agg #[.pointer (some ⟨19,348,none⟩)])) w:=by kernel_rfl
def cmpEntry:Array Value→Sem Value:=Extern.ReflectliteType.method fun t=>do Rtype.noPackHeld "Comparable" t;pure (.bool (←typeInfo t).comparable)
theorem isComparable(w:World):(cmpEntry #[.agg #[.pointer (some ⟨19,348,none⟩)]]).run Tryz.prog w=.ok (.bool true) w:=by kernel_rfl
theorem isMethodComparable(v:Value)(w:World):(Go.method 477 263 v "Comparable").run Tryz.prog w=.ok (246,v) w:=by kernel_rfl
theorem isComp:(Tryz.prog.info? 348).map (·.comparable)=some true:=by kernel_rfl
theorem isSize:(Tryz.prog.info? 366).map (·.size)=some 1:=by kernel_rfl
theorem noIsE(v:Value)(xT:TypeId)(w:World):(Instr.typeAssert (.iface 348 v) xT 274 true).run Tryz.prog w=.ok (.tuple #[.nilIface,.bool false]) w:=run_typeAssert_lacksB Tryz.underlying274 (by kernel_rfl) (by kernel_rfl) v xT w
theorem noUnwrapE(v:Value)(xT:TypeId)(w:World):(Instr.typeAssert (.iface 348 v) xT 270 true).run Tryz.prog w=.ok (.tuple #[.nilIface,.bool false]) w:=run_typeAssert_lacksB Tryz.underlying270 (by kernel_rfl) (by kernel_rfl) v xT w
theorem noUnwrapsE(v:Value)(xT:TypeId)(w:World):(Instr.typeAssert (.iface 348 v) xT 271 true).run Tryz.prog w=.ok (.tuple #[.nilIface,.bool false]) w:=run_typeAssert_lacksB Tryz.underlying271 (by kernel_rfl) (by kernel_rfl) v xT w
theorem noIsW(v:Value)(xT:TypeId)(w:World):(Instr.typeAssert (.iface 192 v) xT 274 true).run Tryz.prog w=.ok (.tuple #[.nilIface,.bool false]) w:=run_typeAssert_lacksB Tryz.underlying274 (by kernel_rfl) (by kernel_rfl) v xT w
theorem hasUnwrapW(v:Value)(xT:TypeId)(w:World):(Instr.typeAssert (.iface 192 v) xT 270 true).run Tryz.prog w=.ok (.tuple #[.iface 192 v,.bool true]) w:=run_typeAssert_hasB Tryz.underlying270 (by kernel_rfl) v xT w
theorem methodUnwrap(v:Value)(w:World):(Go.method 477 192 v "Unwrap").run Tryz.prog w=.ok (237,v) w:=by kernel_rfl
set_option maxRecDepth 100000 in
set_option maxHeartbeats 4000000 in
theorem is_same(x:Value)(b:Addr)(w:World)(hg:w.cell? ⟨3,0,none⟩=some (.iface 348 (.pointer (some b)))):
  Calls Tryz.prog 86 #[.iface 192 (.agg #[x]),.iface 348 (.pointer (some b))] w fun e w'=>e=.returned (.bool true)∧w.alloc (.cells #[x] 192)=w':=by
 obtain⟨i,hi,hcmp⟩:=Option.map_eq_some_iff.1 isComp
 obtain⟨j,hj,hjs⟩:=Option.map_eq_some_iff.1 isSize
 have h8:= @run_callFunc_extern Tryz.prog 121 _ Extern.ReflectliteType.typeOf Tryz.func121 (by kernel_rfl) (by kernel_rfl) (by kernel_rfl) (by kernel_rfl)
 have h32:= @run_callFunc_extern Tryz.prog 246 _ cmpEntry Tryz.func246 (by kernel_rfl) (by kernel_rfl) (by kernel_rfl) (by kernel_rfl)
 have tT:=isTypeOf
 have cT:=isComparable
 have mR:=isMethodComparable
 have nE:=noIsE
 have uE:=noUnwrapE
 have vE:=noUnwrapsE
 have nW:=noIsW
 have uW:=hasUnwrapW
 have mU:=methodUnwrap
 have heq:=run_eql_iface_ptr_same (P:=Tryz.prog) (w.alloc (.cells #[x] 192)) b Tryz.underlying98 Tryz.underlying348 hi hcmp hj
 have hty:=run_eql_iface_types (P:=Tryz.prog) 192 348 (.agg #[x]) (.pointer (some b)) Tryz.underlying98 (by decide) w
 clear hi hcmp hj hjs
 have hlt:=World.block_lt_of_cell? w _ hg
 go_enter Tryz.func86,Tryz.ntmps86
 go_wp2
 refine wp_loop_rounds 2 ?_
 rw[rounds_succ]
 go_wp2
 rw[rounds_succ]
 go_wp2
 go_ret
 exact⟨rfl,rfl⟩
set_option maxRecDepth 100000 in
theorem is_nil(b:Addr)(w:World):
  Calls Tryz.prog 86 #[.nilIface,.iface 348 (.pointer (some b))] w fun e w'=>e=.returned (.bool false)∧w=w':=by
 have hnl:=fun w=>run_eql_iface_nil_left (P:=Tryz.prog) (w:=w) 348 (.pointer (some b)) Tryz.underlying98
 go_enter Tryz.func86,Tryz.ntmps86
 go_wp2
 go_ret
 exact⟨rfl,rfl⟩
end Go.Proofs.YtknelogmocedeaaGreatDoor.IsRep
namespace Go.Proofs.YtknelogmocedeaaGreatDoor.ToldRep
open Go.RowKit
theorem told_nil(w:World)(p:Nat→Addr)(h:Globs w p):Calls Tryz.prog 73 #[.nilIface] w fun e w'=>e=.returned (.int .i64 0)∧Below w.heap.size w w':=by
 have k0:=h.cell 3 (by decide)
 have hlt:=World.block_lt_of_cell? w _ k0
 clear h
 go_enter Tryz.func73,Tryz.ntmps73
 go_wp2_with fail
 have h1:=Aside.mk (below_new w (.cells #[.int .i64 0] 192))
 refine(AsRep.as_nil w.heap.size (.int .i64 0) _ (World.alloc_heap_new w _)).mono ?_
 rintro e w0 ⟨rfl,hb⟩
 have H0:=Aside.mk (below_then h1.out hb)
 clear hb
 go_wp2
 go_ret
 exact⟨rfl,H0.out⟩
set_option maxHeartbeats 1000000 in
theorem told_wrong(x:Value)(hx:x.oneCell'=true)(w:World)(p:Nat→Addr)(h:Globs w p):
  Calls Tryz.prog 73 #[.iface 192 (.agg #[x])] w fun e w'=>e=.returned (.int .i64 120)∧Below w.heap.size w w':=by
 have k0:=h.cell 3 (by decide)
 have hlt:=World.block_lt_of_cell? w _ k0
 go_enter Tryz.func73,Tryz.ntmps73
 go_wp2_with fail
 have h1:Below w.heap.size w (w.alloc (.cells #[.int .i64 0] 192)):=below_new _ _
 refine(AsRep.as_hit w.heap.size (.int .i64 0) x _ hx (h.below h1).et (World.alloc_heap_new w _)).mono ?_
 rintro e w0 ⟨rfl,hb,hc⟩
 have H0:=Aside.mk (h1.trans hb)
 have h0:=h.below H0.out
 clear h h1 hb hc k0 hlt
 have k0:=h0.cell 3 (by decide)
 have hlt:=World.block_lt_of_cell? w0 _ k0
 go_wp2_with fail
 refine(IsRep.is_same x _ _ k0).mono ?_
 rintro e w1 ⟨rfl,hb⟩
 have H1:=Aside.mk (show Below w.heap.size w w1 from below_then H0.out (by rw[←hb];exact below_new _ _))
 clear k0 hb hlt
 go_wp2
 go_ret
 exact⟨rfl,H1.out⟩
end Go.Proofs.YtknelogmocedeaaGreatDoor.ToldRep
