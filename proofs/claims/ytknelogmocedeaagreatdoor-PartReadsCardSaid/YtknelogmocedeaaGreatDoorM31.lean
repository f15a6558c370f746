/- Several texts, one behind the other. tlv, walked: a slice, backward; its elements as they lie. Conditions: at most 10^9 elements. tlv, walked: all trees in one, from the top, as an iterator. Conditions: at most 5 * 10^8 of them. tlv, walked: trees' bytes, which trees are right. Conditions: at most 9 * 10^8 in one. tlv, walked: trees' bytes, or what is wrong. Conditions: at most 9 * 10^8 in one. The statements of latinerlaw10, walked: what is shown. No conditions. The statements PartLeast, PartNames, PartBack, PartReads of latinerlaw10, walked. -/
import Derived.Test.YtknelogmocedeaaGreatDoorM25
import Derived.Test.YtknelogmocedeaaGreatDoorM24
import Derived.Test.YtknelogmocedeaaGreatDoorM22
import Derived.Test.YtknelogmocedeaaGreatDoorM30
import Derived.Test.YtknelogmocedeaaGreatDoorM27
import Derived.Test.YtknelogmocedeaaGreatDoorM29
namespace Go.Proofs.YtknelogmocedeaaGreatDoor.Tl
open Go.RowKit Go.Shelf Go.Lib
open Fl (bl bt' bl_bt bl_of size_bl)
set_option linter.unusedVariables false
variable {X : En}
structure V3 where
 a:Value
 b:Value
 c:Value
def e3(u:V3):List V:=[.raw u.a,.raw u.b,.raw u.c]
def l3(u:V3):List Value:=[u.a,u.b,u.c]
theorem backward_fn(xs:List (List V)):Fn Tryz.prog X 177 [.v (.sl xs)] (.fn 191 [.ro [.sl xs]]):=by
 refine fnP_prog tabOk mixed Tryz.f177 Tryz.func177 (by kernel_rfl) (by kernel_rfl) (by kernel_rfl) ?_
 conv=>whnf
 exact⟨rfl,⟨_,rfl,rfl⟩,trivial⟩
def bwY(l:List V3):List (List V):=l.zipIdx.reverse.map fun q=>[.int .i64 (q.2:Nat),.agg (e3 q.1)]
theorem bwY_get(l:List V3)(j:Nat)(h:1≤j)(hj:j≤l.length):(bwY l)[l.length - j]? =some [.int .i64 ((j - 1:Nat):Int),.agg (e3 (l[j - 1]'(by omega)))]:=by
 unfold bwY
 rw[List.getElem?_map,List.getElem?_reverse (by rw[List.length_zipIdx];omega),List.length_zipIdx,List.getElem?_zipIdx,show l.length - 1 - (l.length - j)=j - 1 by omega,List.getElem?_eq_getElem (by omega)]
 simp
theorem backward_it(l:List V3)(hl:l.length≤1000000000):It Tryz.prog X 191 [.ro [.sl (l.map e3)]] (bwY l):=by
 refine it_prog tabOk mixed Tryz.f191 Tryz.func191 (by kernel_rfl) (by kernel_rfl) (by kernel_rfl) fun k cvs hE hL0 hcv=>⟨_,hcv,rfl,by kernel_rfl,?_⟩
 have hyl:(bwY l).length=l.length:=by unfold bwY;simp
 conv=>whnf
 refine⟨rfl,(l.length:Int) - 1,by rw[List.length_map];exact wrap64 (by omega) (by omega),?_⟩
 conv=>whnf
 refine⟨[],trivial,rfl,Nat,fun j=>⟨19,[(0,.v (.raw (.func (.yield k.l0) #[] #[]))),(1,.ro [.sl (l.map e3)]),(3,.v (.int .i64 (((j:Nat):Int) - 1)))],[],[]⟩,fun j=>some (l.length - j),fun j=>j≤l.length,fun j=>j,⟨l.length,[],Nat.le_refl _,by simp,?_⟩,fun j hj=>?_⟩
 ·exact⟨rfl,rfl,⟨.inl rfl,rfl,.inl rfl,trivial⟩,trivial,trivial⟩
 conv=>whnf
 refine⟨rfl,cmp_split (fun h=>?_) (fun h=>?_)⟩
 ·have hj1:1≤j:=by omega
  conv=>whnf
  refine⟨e3 (l[j - 1]'(by omega)),by omega,by rw[show((j:Int) - 1).toNat=j - 1 by omega,List.getElem?_map,List.getElem?_eq_getElem (by omega)];rfl,rfl,?_⟩
  conv=>whnf
  refine⟨11,_,_,[],⟨19,[(0,.v (.raw (.func (.yield k.l0) #[] #[]))),(1,.ro [.sl (l.map e3)]),(3,.v (.int .i64 (((j:Nat):Int) - 1)))],[],[]⟩,rfl,rfl,rfl,?_,.inl ⟨.inl ⟨rfl,.inl rfl⟩,⟨rfl,⟨.inl ⟨rfl,.inl rfl⟩,.inr rfl,.inl ⟨rfl,.inl rfl⟩,trivial⟩,trivial,trivial,rfl⟩⟩,?_,?_⟩
  ·rw[bwY_get l j hj1 hj,show(((j - 1:Nat):Int))=(j:Int) - 1 by omega];rfl
  ·conv=>whnf
   refine⟨rfl,((j - 1:Nat):Int) - 1,(by rw[show((j:Int) - 1 - 1)=((j - 1:Nat):Int) - 1 by omega];exact wrap64 (by omega) (by omega)),?_⟩
   conv=>whnf
   refine⟨j - 1,[],by dsimp only;omega,by dsimp only;congr 1;omega,by dsimp only;omega,?_⟩
   exact⟨rfl,rfl,⟨.inl rfl,rfl,.inl rfl,trivial⟩,trivial,trivial⟩
  ·conv=>whnf
   exact .inr rfl
 ·conv=>whnf
  have:j=0:=by omega
  subst this
  exact .inl (by rw[hyl];rfl)
end Go.Proofs.YtknelogmocedeaaGreatDoor.Tl
namespace Go.Proofs.YtknelogmocedeaaGreatDoor.Tl
open Go.RowKit Go.Shelf Go.Lib
open Fl (bl bt' bl_bt bl_of size_bl)
open Fi (one_arg)
set_option linter.unusedVariables false
variable {X : En}
structure El where
 d:Nat
 x:Nd
 u:V3
def encR(q:El):List V:=e3 q.u
def encD(q:El):List V:=[.int .i64 (q.d:Nat)]
theorem cells3{w:World}{L:Lv}{b o:Nat}{x:Nd}(h:RepC w L b o (cM x)):∃u:V3,RepL w L (cM x) (l3 u)∧RepC w L b o (e3 u):=by
 obtain⟨⟨u0,a0,b0,c0,d0⟩,⟨u1,a1,b1,c1,d1⟩,⟨u2,a2,b2,c2,d2⟩,_⟩:=h
 exact⟨⟨u0,u1,u2⟩,⟨u0,_,rfl,c0,d0,u1,_,rfl,c1,d1,u2,_,rfl,c2,d2,rfl⟩,
  ⟨u0,a0,b0,Rep.one_val c0 d0,rfl⟩,⟨u1,a1,b1,Rep.one_val c1 d1,rfl⟩,⟨u2,a2,b2,Rep.one_val c2 d2,rfl⟩,trivial⟩
theorem kidsE{w:World}{L:Lv}{b e:Nat}(d:Nat):∀(l:List Nd) (o:Nat),RepE w L b e o (l.map cN)→∃ks:List El,ks.map El.x=l∧(∀q∈ks,q.d=d∧RepL w L (cM q.x) (l3 q.u))∧RepE w L b e o ((ks.map El.u).map e3)
 | [],o,h=>⟨[],rfl,fun q hq=>(by cases hq),trivial⟩
 | x::r,o,⟨h1,h2,h3⟩=>by
  obtain⟨ks,k1,k2,k3⟩:=kidsE d r (o+e) h3
  rw[cM_eq] at h1 h2
  obtain⟨u,r1,r2⟩:=cells3 h2
  refine⟨⟨d,x,u⟩::ks,by rw[List.map_cons,k1],fun q hq=>?_,⟨h1,r2,k3⟩⟩
  rcases List.mem_cons.1 hq with rfl | hq
  ·exact⟨rfl,r1⟩
  ·exact k2 q hq
theorem kids_of{w:World}{L:Lv}(d:Nat){l:List Nd}{v:Value}(h:Rep w L (.sl (l.map cN)) v):∃ks:List El,ks.map El.x=l∧(∀q∈ks,q.d=d∧RepL w L (cM q.x) (l3 q.u))∧Rep w L (.sl ((ks.map El.u).map e3)) v:=by
 obtain⟨A,c,hv,hle,hne⟩:=h
 by_cases hl:l=[]
 ·subst hl
  exact⟨[],rfl,fun q hq=>(by cases hq),A,c,hv,hle,fun hn=>absurd rfl hn⟩
 ·obtain⟨b,o,e,hA,hr⟩:=hne (by simpa using hl)
  obtain⟨ks,k1,k2,k3⟩:=kidsE d l o hr
  have hlen:((ks.map El.u).map e3).length=(l.map cN).length:=by rw[←k1];simp
  exact⟨ks,k1,k2,A,c,by rw[hlen];exact hv,by rw[hlen];exact hle,fun _=>⟨b,o,e,hA,k3⟩⟩
theorem st_lastR{s0:List El}{q:El}{K:List V→Prop}(hK:K (encR q)):∃c,(0:Int)≤(s0.length:Nat)∧((s0++[q]).map encR)[((s0.length:Nat):Int).toNat]? =some c∧c.length=3∧K c:=
 ⟨encR q,by omega,by rw[Int.toNat_natCast,List.getElem?_map,List.getElem?_append_right (Nat.le_refl _),Nat.sub_self];rfl,rfl,hK⟩
theorem st_lastD{s0:List El}{q:El}{K:List V→Prop}(hK:K (encD q)):∃c,(0:Int)≤(s0.length:Nat)∧((s0++[q]).map encD)[((s0.length:Nat):Int).toNat]? =some c∧c.length=1∧K c:=
 ⟨encD q,by omega,by rw[Int.toNat_natCast,List.getElem?_map,List.getElem?_append_right (Nat.le_refl _),Nat.sub_self];rfl,rfl,hK⟩
theorem st_appR{s:List El}(q:El){K:List (List V)→Prop}(h:s.length+1≤1000000000)(hK:K ((s++[q]).map encR)):(s.map encR).length+[encR q].length≤1000000000∧(∀c∈[encR q],c.length=3)∧∃zs,s.map encR++[encR q]=zs∧K zs:=
 st_app (by simpa using h) (fun c hc=>by rw[List.mem_singleton.1 hc];rfl) (by rw[List.map_append];rfl) hK
theorem st_appD{s:List El}(q:El){K:List (List V)→Prop}(h:s.length+1≤1000000000)(hK:K ((s++[q]).map encD)):(s.map encD).length+[encD q].length≤1000000000∧(∀c∈[encD q],c.length=1)∧∃zs,s.map encD++[encD q]=zs∧K zs:=
 st_app (by simpa using h) (fun c hc=>by rw[List.mem_singleton.1 hc];rfl) (by rw[List.map_append];rfl) hK
def flatS(s:List El):List (Nat×Nd):=s.reverse.flatMap fun q=>preN q.d q.x
theorem preNs_map:∀(l:List Nd) (d:Nat),preNs d l=l.flatMap (preN d)
 | [],_=>rfl
 | x::r,d=>by rw[preNs,List.flatMap_cons,preNs_map r d]
theorem preN_cons:∀(d:Nat) (x:Nd),preN d x=(d,x)::preNs (d+1) x.kids
 | d,.mk t x k=>rfl
theorem flatS_snoc(s:List El)(q:El):flatS (s++[q])=(q.d,q.x)::(preNs (q.d+1) q.x.kids++flatS s):=by
 unfold flatS
 rw[List.reverse_append,List.reverse_singleton,List.singleton_append,List.flatMap_cons,preN_cons]
 rfl
theorem flatS_kids(s ks:List El)(d:Nat)(l:List Nd)(h1:ks.map El.x=l)(h2:∀q∈ks,q.d=d):flatS (s++ks.reverse)=preNs d l++flatS s:=by
 unfold flatS
 rw[List.reverse_append,List.reverse_reverse,List.flatMap_append,preNs_map,←h1]
 congr 1
 clear h1
 induction ks with
 | nil=>rfl
 | cons q r ih=>
  rw[List.flatMap_cons,List.map_cons,List.flatMap_cons,ih (fun q' hq=>h2 q' (by simp[hq])),h2 q (by simp)]
theorem flatS_len:∀s:List El,s.length≤(flatS s).length:=fun s=>by
 have:∀t:List El,t.length≤(t.flatMap fun q=>preN q.d q.x).length:=by
  intro t
  induction t with
  | nil=>exact Nat.le_refl _
  | cons q r ih=>rw[List.flatMap_cons,List.length_append,preN_cons,List.length_cons,List.length_cons];omega
 unfold flatS
 have h:=this s.reverse
 rwa [List.length_reverse] at h
theorem pre_le:∀(ks:List El) (d:Nat),∀q∈ks,(preN d q.x).length≤((ks.map El.x).flatMap (preN d)).length
 | [],_,q,hq=>by cases hq
 | k::r,d,q,hq=>by
  rw[List.map_cons,List.flatMap_cons,List.length_append]
  rcases List.mem_cons.1 hq with rfl | hq
  ·omega
  ·have:=pre_le r d q hq;omega
theorem bwK_get(ks:List El)(j:Nat)(hj:j < ks.length):(bwY (ks.map El.u))[j]? =some [.int .i64 ((ks.length - 1 - j:Nat):Int),.agg (e3 (ks.reverse[j]'(by simpa using hj)).u)]:=by
 unfold bwY
 rw[List.getElem?_map,List.getElem?_reverse (by rw[List.length_zipIdx,List.length_map];exact hj),List.length_zipIdx,List.length_map,List.getElem?_zipIdx,List.getElem?_map,List.getElem?_eq_getElem (show ks.length - 1 - j < ks.length by omega),List.getElem_reverse]
 simp
def preY(f:Nd):List (List V):=(preN 1 f).map fun q=>[.int .i64 (q.1:Nat),.agg (cM q.2)]
theorem known_args{k:Ky}{d:Nat}{x:Nd}{u:V3}(h:RepL k.w0 k.L0 (cM x) (l3 u))(us:List Value)(hu:RepW k.w0 k.L0 [.int .i64 (d:Nat),.agg (e3 u)] us):RepW k.w0 k.L0 [.int .i64 (d:Nat),.agg (cM x)] us:=by
 obtain⟨v1,us1,rfl,h1,v2,us2,rfl,⟨cs,rfl,hc⟩,h3⟩:=hu
 obtain⟨a0,t0,e0,_,r0,a1,t1,rfl,_,r1,a2,t2,rfl,_,r2,r6⟩:=hc
 rw[show a0=u.a from r0,show a1=u.b from r1,show a2=u.c from r2,show t2=[] from r6] at e0
 exact⟨_,_,rfl,h1,_,_,rfl,⟨cs,rfl,by rw[e0];exact h⟩,h3⟩
set_option maxHeartbeats 4000000 in
theorem trees_it(f:Nd)(hN:(preN 1 f).length≤900000000):It Tryz.prog X 176 [.ro (cM f)] (preY f):=by
 refine it_prog (Fi.tab_sub tabOk) mixed Tryz.f176 Tryz.func176 (by kernel_rfl) (by kernel_rfl) (by kernel_rfl) fun k cvs hE hL0 hcv=>?_
 obtain⟨v0,rfl,b,o,rfl,hcell⟩:=one_arg hcv
 obtain⟨u,hu1,hu2⟩:=cells3 hcell
 refine⟨[.ro (e3 u)],⟨_,_,rfl,⟨b,o,rfl,hu2⟩,rfl⟩,rfl,by kernel_rfl,?_⟩
 conv=>whnf
 refine⟨[],trivial,rfl,Nat×List El,fun z=>⟨52,[(0,.v (.raw (.func (.yield k.l0) #[] #[]))),(3,.ptr 3 0),(4,.ptr 4 0)],[(3,[.own 11 29 (z.2.map encR)]),(4,[.own 12 3 (z.2.map encD)])],[(11,some 29),(12,some 3)]⟩,fun z=>some z.1,fun z=>z.1≤(preN 1 f).length∧(preN 1 f).drop z.1=flatS z.2∧∀q∈z.2,q.d+(preN q.d q.x).length≤1000000000∧RepL k.w0 k.L0 (cM q.x) (l3 q.u),fun z=>(preN 1 f).length - z.1,⟨(0,[⟨1,f,u⟩]),[(11,some 11),(12,some 12)],⟨Nat.zero_le _,by rw[List.drop_zero];simp[flatS],fun q hq=>by rw[List.mem_singleton.1 hq];exact⟨by dsimp only;omega,hu1⟩⟩,rfl,?_⟩,fun z ⟨hz1,hz2,hz3⟩=>?_⟩
 ·(focus ((repeat' first|exact trivial|exact rfl|exact .inl rfl|exact .inr ⟨rfl,rfl⟩|refine And.intro ?_ ?_);done))
 obtain⟨i,s⟩:=z
 dsimp only at hz1 hz2 hz3
 have hsl:s.length≤900000000:=by
  have h1:=flatS_len s
  rw[←hz2,List.length_drop] at h1
  omega
 conv=>whnf
 refine⟨rfl,cmp_split (fun h=>?_) (fun h=>?_)⟩
 rotate_left
 ·conv=>whnf
  have hs0:s=[]:=by
   cases s with
   | nil=>rfl
   | cons a r=>exact absurd h (by simp)
  subst hs0
  have hd0:(preN 1 f).drop i=[]:=hz2
  have:(preN 1 f).length≤i:=List.drop_eq_nil_iff.1 hd0
  exact .inl (by rw[show(preY f).length=i from by unfold preY;rw[List.length_map];omega])
 rcases List.eq_nil_or_concat s with rfl | ⟨s0,q,hsq⟩
 ·exact absurd h (by simp)
 rw[List.concat_eq_append] at hsq
 subst hsq
 rw[flatS_snoc] at hz2
 obtain⟨hqd,hqu⟩:=hz3 q (by simp)
 rw[preN_cons,List.length_cons] at hqd
 have hlast:((s0++[q]).map encR).length - 1=s0.length:=by simp
 have hkids:Rep k.w0 k.L0 (.sl (q.x.kids.map cN)) q.u.c:=by
  obtain⟨a0,t0,e0,_,r0,a1,t1,rfl,_,r1,a2,t2,rfl,_,r2,r6⟩:=hqu
  unfold l3 at e0
  injection e0 with _ e0
  injection e0 with _ e0
  injection e0 with e0 _
  rw[e0];exact r2
 obtain⟨ks,hk1,hk2,hk3⟩:=kids_of (q.d+1) hkids
 have hil:i < (preN 1 f).length:=by
  rcases Nat.lt_or_ge i (preN 1 f).length with h1 | h1
  ·exact h1
  ·rw[List.drop_eq_nil_of_le h1] at hz2;cases hz2
 have hyi:(preY f)[i]? =some [.int .i64 (q.d:Nat),.agg (cM q.x)]:=by
  unfold preY
  rw[List.getElem?_map,←List.head?_drop,hz2]
  rfl
 have hdrop:(preN 1 f).drop (i+1)=flatS (s0++ks.reverse):=by
  rw[flatS_kids s0 ks (q.d+1) q.x.kids hk1 (fun q' hq'=>(hk2 q' hq').1),←List.drop_drop,hz2]
  rfl
 have hkn:ks.length≤900000000∧s0.length+ks.length≤900000000:=by
  have h1:=flatS_len (s0++ks.reverse)
  rw[←hdrop,List.length_drop,List.length_append,List.length_reverse] at h1
  omega
 conv=>whnf
 refine st_minus ((s0++[q]).map encR).length 1 (by simp) (by simp;omega) ?_
 rw[hlast]
 conv=>whnf
 (refine⟨some [9999],by kernel_rfl,⟨(.one 0 (.one 1 (.one 2 (.one 3 (.one 5 (.or (.or (.one 4 (.one 6 (.one 3007 (.or (.one 8 (.one 9 (.one 10 (.one 11 .nil)))) (.one 9 (.one 8 (.one 10 (.one 11 .nil)))))))) (.one 8 (.or (.one 4 (.one 6 (.one 3007 (.one 9 (.one 10 (.one 11 .nil)))))) (.one 9 (.or (.one 4 (.one 6 (.one 3007 (.one 10 (.one 11 .nil))))) (.one 10 (.one 4 (.one 6 (.one 7 (.one 11 .nil)))))))))) (.one 9 (.or (.one 4 (.one 6 (.one 3007 (.one 8 (.one 10 (.one 11 .nil)))))) (.one 8 (.or (.one 4 (.one 6 (.one 3007 (.one 10 (.one 11 .nil))))) (.one 10 (.one 4 (.one 6 (.one 7 (.one 11 .nil))))))))))))))),by kernel_rfl,?_,?_,?_⟩⟩;rotate_left;(focus ((conv=>whnf);(repeat' (first | ((refine st_lastR ?_) <;> (conv=>whnf)) | ((refine st_lastD ?_) <;> (conv=>whnf)) | ((refine And.intro ?_ ?_) <;> (conv=>whnf)) | (exact St.le_refl _) | (refine⟨rfl,?_,?_,?_⟩ <;> (repeat' (first | exact trivial | (refine⟨rfl,?_⟩)));done) | fail)))));conv=>whnf
 refine⟨some [0,1,2,4,1003,5,6,7],by kernel_rfl,?_⟩;conv=>whnf
 refine⟨s0.length,rfl,by simp,?_⟩
 conv=>whnf
 refine⟨s0.length,rfl,by simp,?_⟩
 conv=>whnf
 refine⟨33,_,_,[(11,(29,s0.length,(s0++[q]).map encR)),(12,(3,s0.length,(s0++[q]).map encD))],⟨52,[(0,.v (.raw (.func (.yield k.l0) #[] #[]))),(3,.ptr 3 0),(4,.ptr 4 0),(6,.ptr 6 0),(7,.ptr 7 0)],[(3,[.own 11 29 (s0.map encR)]),(4,[.own 12 3 (s0.map encD)]),(6,[.v (.raw q.u.a),.v (.raw q.u.b),.v (.sl ((ks.map El.u).map e3))]),(7,[.v (.int .i64 (q.d:Nat))])],[(11,some 29),(12,some 3)]⟩,rfl,rfl,rfl,hyi,.inl ⟨.inr ⟨rfl,known_args hqu⟩,⟨rfl,?_,?_,?_,rfl⟩⟩,?_,?_⟩
 ·exact⟨.inl ⟨rfl,.inl rfl⟩,.inl ⟨rfl,rfl⟩,.inl ⟨rfl,rfl⟩,.inl ⟨rfl,rfl⟩,.inl ⟨rfl,rfl⟩,trivial⟩
 ·refine⟨⟨_,rfl,⟨rfl,_,rfl,by simp⟩,trivial⟩,⟨_,rfl,⟨rfl,_,rfl,by simp⟩,trivial⟩,⟨_,rfl,⟨rfl,.inl rfl⟩,⟨rfl,.inl rfl⟩,⟨rfl,.inr fun v hv=>?_⟩,trivial⟩,⟨_,rfl,⟨rfl,.inl rfl⟩,trivial⟩,trivial⟩
  rw[show v=q.u.c from hv];exact hk3
 ·refine⟨⟨rfl,⟨27,rfl⟩,by simp,fun c hc=>?_⟩,⟨rfl,⟨30,rfl⟩,by simp,fun c hc=>?_⟩,trivial⟩
  ·obtain⟨z,_,rfl⟩:=List.mem_map.1 hc;rfl
  ·obtain⟨z,_,rfl⟩:=List.mem_map.1 hc;rfl
 rotate_left
 ·conv=>whnf
  exact .inr rfl
 conv=>whnf
 refine st_call (backward_fn ((ks.map El.u).map e3)) ⟨.inl rfl,trivial⟩ rfl rfl ?_
 conv=>whnf
 have hby:(bwY (ks.map El.u)).length=ks.length:=by unfold bwY;simp
 refine⟨_,_,fun j=>⟨52,[(0,.v (.raw (.func (.yield k.l0) #[] #[]))),(3,.ptr 3 0),(4,.ptr 4 0),(7,.ptr 7 0)],[(3,[.own 11 29 ((s0++ks.reverse.take j).map encR)]),(4,[.own 12 3 ((s0++ks.reverse.take j).map encD)]),(7,[.v (.int .i64 (q.d:Nat))])],[(11,some 29),(12,some 3)]⟩,fun j=>j≤ks.length,backward_it (ks.map El.u) (by simp;omega),⟨rfl,trivial⟩,rfl,⟨Nat.zero_le _,[(11,some 11),(12,some 12)],?_⟩,fun j=>rfl,(show ∀p∈[41,42],p < 52 by decide),fun j v hv hj=>?_,fun hj=>?_⟩
 ·dsimp only
  rw[List.take_zero,List.append_nil]
  (focus ((repeat' first|exact trivial|exact rfl|exact .inl rfl|exact .inr ⟨rfl,rfl⟩|refine And.intro ?_ ?_);done))
 ·have hjl:j < ks.length:=by
   have:=(List.getElem?_eq_some_iff.1 hv).1
   omega
  have hrl:j < ks.reverse.length:=by rw[List.length_reverse];exact hjl
  have hy:=bwK_get ks j hjl
  rw[hv] at hy
  injection hy with hy
  subst hy
  have hmem:ks.reverse[j]'hrl∈ks:=List.mem_reverse.1 (List.getElem_mem hrl)
  obtain⟨hd1,hd2⟩:=hk2 _ hmem
  have htk:s0++ks.reverse.take j++[ks.reverse[j]'hrl]=s0++ks.reverse.take (j+1):=by
   rw[List.append_assoc,List.take_succ_eq_append_getElem hrl]
  generalize ks.reverse[j]'hrl=r at*
  refine⟨rfl,?_⟩
  conv=>whnf
  have hln:(s0++ks.reverse.take j).length+1≤1000000000:=by
   rw[List.length_append,List.length_take];omega
  have hrd:(r.d:Int)=((q.d+1:Nat):Int):=by rw[hd1]
  (refine⟨some [9999],by kernel_rfl,⟨(.one 0 (.one 1 (.one 1004 (.one 1005 (.one 6 (.or (.one 2 (.or (.one 3 (.one 7 (.one 8 (.one 9 (.one 10 .nil))))) (.one 7 (.one 3 (.one 8 (.one 9 (.one 10 .nil))))))) (.one 7 (.one 2 (.one 3 (.one 8 (.one 9 (.one 10 .nil)))))))))))),by kernel_rfl,?_,?_,?_⟩⟩;rotate_left;(focus ((conv=>whnf);(repeat' (first | ((refine st_appR r hln ?_) <;> (conv=>whnf)) | ((refine⟨rfl,st_succ (by omega) ?_⟩) <;> (conv=>whnf)) | (((show(List.map encD (s0++List.take j ks.reverse)).length+[[V.int IntKind.i64 ((q.d+1:Nat):Int)]].length≤1000000000∧_;rw[←hrd];refine st_appD r hln ?_)) <;> (conv=>whnf)) | ((refine And.intro ?_ ?_) <;> (conv=>whnf)) | (exact St.le_refl _) | (refine⟨rfl,?_,?_,?_⟩ <;> (repeat' (first | exact trivial | (refine⟨rfl,?_⟩)));done) | fail)))));conv=>whnf
  refine⟨by dsimp only;omega,[(11,some 46),(12,some 51)],?_⟩
  dsimp only
  rw[←htk]
  (focus ((repeat' first|exact trivial|exact rfl|exact .inl rfl|exact .inr ⟨rfl,rfl⟩|refine And.intro ?_ ?_);done))
 ·conv=>whnf
  rw[hby]
  have htake:ks.reverse.take ks.length=ks.reverse:=by rw[←List.length_reverse,List.take_length]
  refine⟨(i+1,s0++ks.reverse),[(11,some 11),(12,some 12)],⟨hil,hdrop,fun q' hq'=>?_⟩,rfl,by dsimp only;omega,?_⟩
  ·rcases List.mem_append.1 hq' with hq' | hq'
   ·exact hz3 q' (by simp[hq'])
   ·obtain⟨h1,h2⟩:=hk2 q' (List.mem_reverse.1 hq')
    refine⟨?_,h2⟩
    have h3:(preN q'.d q'.x).length≤(preNs (q.d+1) q.x.kids).length:=by
     rw[preNs_map,←hk1,h1]
     exact pre_le ks (q.d+1) q' (List.mem_reverse.1 hq')
    omega
  ·dsimp only
   rw[htake]
   (focus ((repeat' first|exact trivial|exact rfl|exact .inl rfl|exact .inr ⟨rfl,rfl⟩|refine And.intro ?_ ?_);done))
theorem trees_fn{X:En}(f:Nd):Fn Tryz.prog X 150 [.v (.agg (cM f))] (.fn 176 [.ro (cM f)]):=by
 refine fnP_prog tabOk mixed Tryz.f150 Tryz.func150 (by kernel_rfl) (by kernel_rfl) (by kernel_rfl) ?_
 conv=>whnf
 exact⟨rfl,⟨_,rfl,rfl⟩,trivial⟩
theorem pre_get(f:Nd){j:Nat}{v:List V}(h:(preY f)[j]? =some v):∃hj:j < (preN 1 f).length,v=[.int .i64 (((preN 1 f)[j]).1:Nat),.agg (cM ((preN 1 f)[j]).2)]:=by
 unfold preY at h
 rw[List.getElem?_map] at h
 obtain⟨q,hq,rfl⟩:=Option.map_eq_some_iff.1 h
 obtain⟨hj,rfl⟩:=List.getElem?_eq_some_iff.1 hq
 exact⟨hj,rfl⟩
end Go.Proofs.YtknelogmocedeaaGreatDoor.Tl
namespace Go.Proofs.YtknelogmocedeaaGreatDoor.Tl
open Go.RowKit Go.Shelf Go.Lib
open Fl (bl bt' bl_bt bl_of size_bl)
open Fi (encS)
set_option linter.unusedVariables false
variable (p : Nat → Addr)
theorem size_bt(l:List UInt8):(bt' l).size=l.length:=by rw[←size_bl,bl_of]
theorem cat_bt(a b:List UInt8):bt' a++bt' b=bt' (a++b):=by
 apply ByteArray.ext
 rw[ByteArray.data_append]
 simp[bt']
set_option maxHeartbeats 4000000 in
theorem joined_fn(t:Nat)(xs:List ByteArray)(hn:xs.length≤1000000000)(hl:(catL xs).length≤16777215):Fn Tryz.prog (envX p) 115 [.v (.int .i64 (t:Nat)),.v (.sl (xs.map encS))] (.v (.str (bt' (UInt8.ofNat t::(szL (catL xs).length++catL xs))))):=by
 have hj:=join_fn p xs hn (by omega)
 have he:=encode_fn p (catL xs).length hl
 have hsz:=size_bt (catL xs)
 have hs4:=(szL_len (catL xs).length).2
 have hs5:=size_bt (szL (catL xs).length)
 have hs6:=size_bt (UInt8.ofNat t::szL (catL xs).length)
 rw[List.length_cons] at hs6
 refine fn_prog tabOk mixed Tryz.f115 Tryz.func115 (by kernel_rfl) (by kernel_rfl) ?_
 conv=>whnf
 (refine st_call hj ?_ rfl rfl ?_;(focus ((repeat' first|exact trivial|exact rfl|exact .inl rfl|exact .inr ⟨rfl,rfl⟩|refine And.intro ?_ ?_);done));conv=>whnf)
 rw[hsz]
 (refine st_call he ?_ rfl rfl ?_;(focus ((repeat' first|exact trivial|exact rfl|exact .inl rfl|exact .inr ⟨rfl,rfl⟩|refine And.intro ?_ ?_);done));conv=>whnf)
 refine⟨_,rfl,?_⟩
 conv=>whnf
 refine⟨[UInt8.ofNat t],?_,?_⟩
 ·show some [UInt8.ofNat (IntKind.u8.wrap ((t:Nat):Int)).toNat]=_
  rw[ofNat_wrap]
 conv=>whnf
 refine⟨?_,bt' (UInt8.ofNat t::szL (catL xs).length),cat_bt [UInt8.ofNat t] (szL (catL xs).length),?_⟩
 ·rw[show({data:=[UInt8.ofNat t].toArray}:ByteArray).size=1 from rfl]
  omega
 conv=>whnf
 refine⟨by omega,_,cat_bt _ _,?_⟩
 conv=>whnf
 exact⟨.inl rfl,rfl⟩
theorem catL_kids(d:ByteArray):∀l:List Nd,catL (l.map (fun z=>bt' (layN z))++[d])=layNs l++bl d
 | []=>by
  show bl d++[]=_
  rw[List.append_nil];rfl
 | x::r=>by
  have h:=catL_kids d r
  unfold catL at h ⊢
  rw[List.map_cons,List.cons_append,List.map_cons,List.flatten_cons,h,bl_of,layNs,List.append_assoc]
set_option maxHeartbeats 4000000 in
theorem laid_one(x:Nd)(t:Nat)(ht:x.tag=(t:Nat))(hrec:∀y∈x.kids,Fn Tryz.prog (envX p) 81 [.v (.agg (cM y))] (.v (.str (bt' (layN y)))))(hn:x.kids.length≤100000000)(hl:(layNs x.kids++bl x.data).length≤16777215):Fn Tryz.prog (envX p) 81 [.v (.agg (cM x))] (.v (.str (bt' (layN x)))):=by
 have hlay:layN x=UInt8.ofNat t::(szL (layNs x.kids++bl x.data).length++(layNs x.kids++bl x.data)):=by
  cases x with
  | mk t0 d k=>
   rw[layN]
   rw[show t0.toNat=t from by have:t0=(t:Nat):=ht;omega]
   rfl
 have hj:=joined_fn p t (x.kids.map (fun z=>bt' (layN z))++[x.data]) (by simp;omega) (by rw[catL_kids];exact hl)
 rw[catL_kids,←hlay] at hj
 refine fn_prog tabOk mixed Tryz.f81 Tryz.func81 (by kernel_rfl) (by kernel_rfl) ?_
 conv=>whnf
 refine⟨Nat,fun i=>⟨27,[(1,.ptr 1 0),(3,.own 17 9 ((x.kids.take i).map fun z=>encS (bt' (layN z)))),(7,.v (.sl (x.kids.map cN))),(8,.v (.int .i64 ((x.kids.map cN).length:Nat))),(9,.v (.int .i64 (i:Nat)))],[(1,(cM x).map .v)],[(17,some 9)]⟩,fun i=>i≤x.kids.length,fun i=>x.kids.length - i,⟨0,[(17,none)],Nat.zero_le _,?_⟩,fun i hi=>?_⟩
 ·(focus ((repeat' first|exact trivial|exact rfl|exact .inl rfl|exact .inr ⟨rfl,rfl⟩|refine And.intro ?_ ?_);done))
 conv=>whnf
 refine⟨rfl,cmp_split (fun h=>?_) (fun h=>?_)⟩
 ·rw[List.length_map] at h
  have hil:i < x.kids.length:=by omega
  conv=>whnf
  refine st_idxN hil ?_
  conv=>whnf
  (refine st_call (hrec x.kids[i] (List.getElem_mem hil)) ?_ rfl rfl ?_;(focus ((repeat' first|exact trivial|exact rfl|exact .inl rfl|exact .inr ⟨rfl,rfl⟩|refine And.intro ?_ ?_);done));conv=>whnf)
  refine st_app (by simp;omega) (by simp[V.cells]) (map_take_succ (enc:=fun z=>encS (bt' (layN z))) hil) ?_
  conv=>whnf
  refine⟨rfl,st_succ (by omega) ?_⟩
  conv=>whnf
  refine⟨i+1,[(17,some 17)],by omega,by dsimp only;omega,?_⟩
  (focus ((repeat' first|exact trivial|exact rfl|exact .inl rfl|exact .inr ⟨rfl,rfl⟩|refine And.intro ?_ ?_);done))
 ·rw[List.length_map] at h
  have htk:x.kids.take i=x.kids:=List.take_of_length_le (by omega)
  conv=>whnf
  refine⟨none,by kernel_rfl,?_⟩;conv=>whnf
  rw[htk,ht]
  refine st_app (zs:=(x.kids.map (fun z=>bt' (layN z))++[x.data]).map encS) (by simp;omega) (by simp[V.cells]) (by rw[List.map_append,List.map_map];rfl) ?_
  conv=>whnf
  (refine st_call hj ?_ rfl rfl ?_;(focus ((repeat' first|exact trivial|exact rfl|exact .inl rfl|exact .inr ⟨rfl,rfl⟩|refine And.intro ?_ ?_);done));conv=>whnf)
  exact⟨.inl rfl,rfl⟩
theorem okN_tag{d:Nat}{x:Nd}(h:(preN d x).all okN=true):∃t:Nat,x.tag=(t:Nat)∧t < 256:=by
 rw[preN_cons,List.all_cons,Bool.and_eq_true] at h
 obtain⟨h0,_⟩:=h
 unfold okN at h0
 rw[oneN_val] at h0
 simp only[Bool.and_eq_true,decide_eq_true_eq] at h0
 exact⟨x.tag.toNat,by omega,by omega⟩
mutual
theorem laid_fn:∀(x:Nd) (d:Nat),(preN d x).all okN=true→(layN x).length≤16000000→Fn Tryz.prog (envX p) 81 [.v (.agg (cM x))] (.v (.str (bt' (layN x))))
 | .mk t0 dt k,d,ha,hl=>by
  obtain⟨t,ht,_⟩:=okN_tag ha
  have hk:(preNs (d+1) k).all okN=true:=by
   rw[preN,List.all_cons,Bool.and_eq_true] at ha
   exact ha.2
  have hll:(layNs k++bl dt).length≤16000000:=by
   rw[layN,List.length_cons,List.length_append] at hl
   omega
  have hkl:(layNs k).length≤16000000:=by rw[List.length_append] at hll;omega
  have h2:=len_lays k
  have hks:=laid_fns k (d+1) hk hkl
  exact laid_one p (.mk t0 dt k) t ht hks (by show k.length≤_;omega) (by show(layNs k++bl dt).length≤_;omega)
theorem laid_fns:∀(l:List Nd) (d:Nat),(preNs d l).all okN=true→(layNs l).length≤16000000→∀y∈l,Fn Tryz.prog (envX p) 81 [.v (.agg (cM y))] (.v (.str (bt' (layN y))))
 | [],d,_,_=>fun y hy=>by cases hy
 | x::r,d,ha,hl=>fun y hy=>by
  rw[preNs,List.all_append,Bool.and_eq_true] at ha
  rw[layNs,List.length_append] at hl
  have hx:=laid_fn x d ha.1 (by omega)
  have hr:=laid_fns r d ha.2 (by omega)
  rcases List.mem_cons.1 hy with e | hy
  ·rw[e];exact hx
  ·exact hr y hy
end
set_option maxHeartbeats 4000000 in
theorem shaped_fn(f:Nd)(hN:(preN 1 f).length≤900000000):Fn Tryz.prog (envX p) 114 [.v (.agg (cM f))] (.v (.bool (shapedN f))):=by
 have hpl:(preY f).length=(preN 1 f).length:=by unfold preY;rw[List.length_map]
 refine fn_prog tabOk mixed Tryz.f114 Tryz.func114 (by kernel_rfl) (by kernel_rfl) ?_
 conv=>whnf
 (refine st_call (trees_fn (X:=envX p) f) ?_ rfl rfl ?_;(focus ((repeat' first|exact trivial|exact rfl|exact .inl rfl|exact .inr ⟨rfl,rfl⟩|refine And.intro ?_ ?_);done));conv=>whnf)
 refine⟨_,_,fun j=>⟨29,[(2,.ptr 2 0),(3,.ptr 3 0)],[(2,[.v (.bool false)]),(3,[.v (.int .i64 (j:Nat))])],[]⟩,fun j=>j≤(preN 1 f).length∧j≤200∧((preN 1 f).take j).all okN=true,trees_it f hN,⟨rfl,trivial⟩,rfl,⟨⟨Nat.zero_le _,Nat.zero_le _,rfl⟩,[],?_⟩,fun j=>rfl,(show ∀q∈[8,9],q < 29 by decide),fun j v hv ⟨hj,hj2,ha⟩=>?_,fun⟨hj,hj2,ha⟩=>?_⟩
 ·(focus ((repeat' first|exact trivial|exact rfl|exact .inl rfl|exact .inr ⟨rfl,rfl⟩|refine And.intro ?_ ?_);done))
 ·obtain⟨hjl,rfl⟩:=pre_get f hv
  have hts:=Fi.all_take_succ okN (preN 1 f) j hjl
  have hbad:okN (preN 1 f)[j]=false→shapedN f=false:=fun h=>by
   unfold shapedN
   rw[Fi.all_bad (f:=okN) hjl h,Bool.and_false]
  generalize (preN 1 f)[j]=q at*
  obtain⟨d,x⟩:=q
  dsimp only
  refine⟨rfl,?_⟩
  conv=>whnf
  refine⟨rfl,st_succ (by omega) ?_⟩
  conv=>whnf
  refine⟨rfl,cmp_split (fun h=>?_) (fun h=>?_)⟩
  ·conv=>whnf
   refine⟨[],⟨29,[(2,.ptr 2 0)],[(2,[.v (.bool false)])],[]⟩,by(focus ((repeat' first|exact trivial|exact rfl|exact .inl rfl|exact .inr ⟨rfl,rfl⟩|refine And.intro ?_ ?_);done)),rfl,?_⟩
   conv=>whnf
   exact⟨.inl (congrArg V.bool (by unfold shapedN;rw[decide_eq_false (by omega)];rfl)),rfl⟩
  conv=>whnf
  refine⟨rfl,cmp_split (fun h2=>?_) (fun h2=>?_)⟩
  ·conv=>whnf
   refine⟨[],⟨29,[(2,.ptr 2 0)],[(2,[.v (.bool false)])],[]⟩,by(focus ((repeat' first|exact trivial|exact rfl|exact .inl rfl|exact .inr ⟨rfl,rfl⟩|refine And.intro ?_ ?_);done)),rfl,?_⟩
   conv=>whnf
   exact⟨.inl (congrArg V.bool (hbad (by unfold okN;rw[decide_eq_false (by dsimp only;omega)];rfl)).symm),rfl⟩
  conv=>whnf
  refine st_callB (one_fn (X:=envX p) x) ⟨.inl rfl,trivial⟩ rfl (fun h3=>?_) (fun h3=>?_)
  ·conv=>whnf
   refine⟨rfl,cmp_split (fun h4=>?_) (fun h4=>?_)⟩
   ·conv=>whnf
    refine⟨[],⟨29,[(2,.ptr 2 0)],[(2,[.v (.bool false)])],[]⟩,by(focus ((repeat' first|exact trivial|exact rfl|exact .inl rfl|exact .inr ⟨rfl,rfl⟩|refine And.intro ?_ ?_);done)),rfl,?_⟩
    conv=>whnf
    exact⟨.inl (congrArg V.bool (hbad (by unfold okN;rw[h3,decide_eq_false (show ¬x.data.size≤4000 by omega),Bool.and_false,Bool.and_false])).symm),rfl⟩
   ·conv=>whnf
    refine⟨⟨hjl,by omega,by rw[hts,ha];unfold okN;rw[decide_eq_true (by dsimp only;omega),h3,decide_eq_true (show x.data.size≤4000 by omega)];rfl⟩,[],?_⟩
    (focus ((repeat' first|exact trivial|exact rfl|exact .inl rfl|exact .inr ⟨rfl,rfl⟩|refine And.intro ?_ ?_);done))
  ·conv=>whnf
   refine⟨[],⟨29,[(2,.ptr 2 0)],[(2,[.v (.bool false)])],[]⟩,by(focus ((repeat' first|exact trivial|exact rfl|exact .inl rfl|exact .inr ⟨rfl,rfl⟩|refine And.intro ?_ ?_);done)),rfl,?_⟩
   conv=>whnf
   exact⟨.inl (congrArg V.bool (hbad (by unfold okN;rw[h3,Bool.false_and,Bool.and_false])).symm),rfl⟩
 ·conv=>whnf
  rw[hpl,List.take_length] at ha
  rw[hpl] at hj2
  exact⟨.inl (congrArg V.bool (by unfold shapedN;rw[ha,decide_eq_true hj2];rfl)),rfl⟩
set_option maxHeartbeats 4000000 in
theorem right_fn(f:Nd)(hN:(preN 1 f).length≤900000000):Fn Tryz.prog (envX p) 79 [.v (.agg (cM f))] (.v (.bool (rightN f))):=by
 refine fn_prog tabOk mixed Tryz.f79 Tryz.func79 (by kernel_rfl) (by kernel_rfl) ?_
 conv=>whnf
 refine st_callB (shaped_fn p f hN) ⟨.inl rfl,trivial⟩ rfl (fun h=>?_) (fun h=>?_)
 ·have hs:=h
  unfold shapedN at hs
  simp only[Bool.and_eq_true,decide_eq_true_eq] at hs
  have hl:=lay_le 1 f hs.2
  have hlf:=laid_fn p f 1 hs.2 (by omega)
  have hz:=size_bt (layN f)
  conv=>whnf
  (refine st_call hlf ?_ rfl rfl ?_;(focus ((repeat' first|exact trivial|exact rfl|exact .inl rfl|exact .inr ⟨rfl,rfl⟩|refine And.intro ?_ ?_);done));conv=>whnf)
  refine⟨rfl,cmp_split (fun h2=>?_) (fun h2=>?_)⟩
  ·conv=>whnf
   exact⟨.inl (congrArg V.bool (by unfold rightN;rw[h,decide_eq_true (by omega)];rfl)),rfl⟩
  ·conv=>whnf
   exact⟨.inl (congrArg V.bool (by unfold rightN;rw[h,decide_eq_false (by omega)];rfl)),rfl⟩
 ·conv=>whnf
  exact⟨.inl (congrArg V.bool (by unfold rightN;rw[h];rfl)),rfl⟩
end Go.Proofs.YtknelogmocedeaaGreatDoor.Tl
namespace Go.Proofs.YtknelogmocedeaaGreatDoor.Tl
open Go.RowKit Go.Shelf Go.Lib
open Fl (bl bt' bl_bt bl_of size_bl)
open Fi (encS)
set_option linter.unusedVariables false
variable (p : Nat → Addr)
def encT(f:Nd):T:=if rightN f=true then .tup [.v (.str (bt' (layN f))),.v (.int .i64 0)] else .tup [.v (.str (bt' [])),.v (.int .i64 21)]
set_option maxHeartbeats 4000000 in
theorem tlvEncode_fn(f:Nd)(hN:(preN 1 f).length≤900000000):Fn Tryz.prog (envX p) 42 [.v (.agg (cM f))] (encT f):=by
 refine fn_prog tabOk mixed Tryz.f42 Tryz.func42 (by kernel_rfl) (by kernel_rfl) ?_
 conv=>whnf
 refine st_callB (right_fn p f hN) ⟨.inl rfl,trivial⟩ rfl (fun h=>?_) (fun h=>?_)
 ·have hs:=h
  unfold rightN shapedN at hs
  simp only[Bool.and_eq_true,decide_eq_true_eq] at hs
  have hlf:=laid_fn p f 1 hs.1.2 (by omega)
  conv=>whnf
  (refine st_call hlf ?_ rfl rfl ?_;(focus ((repeat' first|exact trivial|exact rfl|exact .inl rfl|exact .inr ⟨rfl,rfl⟩|refine And.intro ?_ ?_);done));conv=>whnf)
  unfold encT
  rw[if_pos h]
  exact⟨⟨.inl rfl,.inl rfl,trivial⟩,rfl⟩
 ·conv=>whnf
  refine⟨nodeV p,⟨by decide,rfl⟩,?_⟩
  conv=>whnf
  (refine st_call (told_node p 0) ?_ rfl rfl ?_;(focus ((repeat' first|exact trivial|exact rfl|exact .inl rfl|exact .inr ⟨rfl,rfl⟩|refine And.intro ?_ ?_);done));conv=>whnf)
  unfold encT
  rw[if_neg (by rw[h];decide)]
  exact⟨⟨.inl rfl,.inl rfl,trivial⟩,rfl⟩
end Go.Proofs.YtknelogmocedeaaGreatDoor.Tl
namespace Go.Proofs.YtknelogmocedeaaGreatDoor.Pa
open Go.RowKit Go.Shelf Go.Lib Tl Pr
open Fl (bl bt' bl_bt bl_of size_bl)
open Fi (one_arg encS all_take_succ all_bad)
set_option linter.unusedVariables false
def w1:Att:=⟨bt' [97],[bt' [98]]⟩
def w2:Att:=⟨bt' [97],[]⟩
def w3:Nd:=.mk 48 (bt' []) [leafN 4 (bt' [49,46,50]),leafN 1 (bt' [1])]
def w4:Res:=⟨10,bt' [111,61,120],bt' [],[bt' [114]]⟩
def w5:Ctl:=⟨bt' [49,46,50],true,bt' [],false⟩
theorem w1_att:attB w1 1=true:=by decide+kernel
theorem w1_right:rightN (attN w1)=true:=by decide+kernel
theorem w1_lay:layN (attN w1)=[48,8,4,1,97,49,3,4,1,98]:=by decide+kernel
theorem w2_att:attB w2 1=false:=by decide+kernel
theorem w3_read:readC w3=some w5:=by kernel_rfl
theorem w4_res:resB w4=true:=by decide+kernel
theorem w4_read:readR ((resN w4).take 3)=none:=by kernel_rfl
theorem w5_oid:oidB (bt' [49,46,50])=true:=by decide+kernel
theorem w6_oid:oidB (bt' [99,110])=false:=by decide+kernel
theorem w7_dn:dnB (bt' [99,110,61,97])=true:=by decide+kernel
theorem w8_dn:dnB (bt' [99,110])=false:=by decide+kernel
variable (p : Nat → Addr)
set_option maxHeartbeats 4000000 in
theorem shown_fn:Fn Tryz.prog (envX p) 11 [] (.v (.bool true)):=by
 have h1:=Attr_fn p w1 1 ⟨by decide,by decide⟩
 unfold AttT at h1
 rw[if_pos w1_att] at h1
 have h2:=tlvEncode_fn p (attN w1) (by decide)
 unfold encT at h2
 rw[if_pos w1_right,w1_lay] at h2
 have h3:=Attr_fn p w2 1 ⟨by decide,by decide⟩
 unfold AttT at h3
 rw[w2_att,if_neg (by decide)] at h3
 have h4:=ReadControl_fn p w3 ⟨by decide,⟨by decide,trivial⟩,⟨by decide,trivial⟩,trivial⟩
 rw[w3_read] at h4
 unfold ctlG at h4
 have h5:=Result_fn p w4 ⟨by decide,by decide,by decide,by decide⟩
 unfold ResT at h5
 rw[if_pos w4_res] at h5
 have h6:=ReadResult_fn p ((resN w4).take 3) ⟨by decide,⟨by decide,by decide,trivial⟩,⟨by decide,by decide,trivial⟩,⟨by decide,by decide,trivial⟩,trivial⟩ (by decide)
 rw[w4_read] at h6
 unfold resG at h6
 have h7:=oid_fn p (bt' [49,46,50])
 rw[w5_oid] at h7
 have h8:=oid_fn p (bt' [99,110])
 rw[w6_oid] at h8
 have h9:=dn_fn p (bt' [99,110,61,97]) (by decide)
 rw[w7_dn] at h9
 have h10:=dn_fn p (bt' [99,110]) (by decide)
 rw[w8_dn] at h10
 refine fn_prog (tab_nz tabOk) mixed Tryz.f11 Tryz.func11 (by kernel_rfl) (by kernel_rfl) ?_
 conv=>whnf
 (refine st_call h1 ?_ rfl rfl ?_;(focus ((repeat' first|exact trivial|exact rfl|exact .inl rfl|exact .inr ⟨rfl,rfl⟩|refine And.intro ?_ ?_);done));conv=>whnf)
 (refine st_call h2 ?_ rfl rfl ?_;(focus ((repeat' first|exact trivial|exact rfl|exact .inl rfl|exact .inr ⟨rfl,rfl⟩|refine And.intro ?_ ?_);done));conv=>whnf)
 (refine st_call h3 ?_ rfl rfl ?_;(focus ((repeat' first|exact trivial|exact rfl|exact .inl rfl|exact .inr ⟨rfl,rfl⟩|refine And.intro ?_ ?_);done));conv=>whnf)
 (refine st_call h4 ?_ rfl rfl ?_;(focus ((repeat' first|exact trivial|exact rfl|exact .inl rfl|exact .inr ⟨rfl,rfl⟩|refine And.intro ?_ ?_);done));conv=>whnf)
 (refine st_call h5 ?_ rfl rfl ?_;(focus ((repeat' first|exact trivial|exact rfl|exact .inl rfl|exact .inr ⟨rfl,rfl⟩|refine And.intro ?_ ?_);done));conv=>whnf)
 refine st_min 3 ?_
 conv=>whnf
 refine st_sub 0 3 rfl rfl (by omega) (by decide) (m:=3) (by intro c hc;obtain⟨y,_,rfl⟩:=List.mem_map.1 hc;rfl) (z:=((resN w4).take 3).map cN) rfl ?_
 conv=>whnf
 (refine st_call h6 ?_ rfl rfl ?_;(focus ((repeat' first|exact trivial|exact rfl|exact .inl rfl|exact .inr ⟨rfl,rfl⟩|refine And.intro ?_ ?_);done));conv=>whnf)
 (repeat' (first | (((with_reducible apply st_call (h7));(focus ((repeat' first|exact trivial|exact rfl|exact .inl rfl|exact .inr ⟨rfl,rfl⟩|refine And.intro ?_ ?_);done));(focus (exact rfl));(focus (exact rfl))) <;> (conv=>whnf)) | (((with_reducible apply st_call (h8));(focus ((repeat' first|exact trivial|exact rfl|exact .inl rfl|exact .inr ⟨rfl,rfl⟩|refine And.intro ?_ ?_);done));(focus (exact rfl));(focus (exact rfl))) <;> (conv=>whnf)) | (((with_reducible apply st_call (h9));(focus ((repeat' first|exact trivial|exact rfl|exact .inl rfl|exact .inr ⟨rfl,rfl⟩|refine And.intro ?_ ?_);done));(focus (exact rfl));(focus (exact rfl))) <;> (conv=>whnf)) | (((with_reducible apply st_call (h10));(focus ((repeat' first|exact trivial|exact rfl|exact .inl rfl|exact .inr ⟨rfl,rfl⟩|refine And.intro ?_ ?_);done));(focus (exact rfl));(focus (exact rfl))) <;> (conv=>whnf)) | ((refine⟨rfl,cmp_true (by decide) ?_⟩) <;> (conv=>whnf)) | ((refine cmp_true rfl ?_) <;> (conv=>whnf)) | fail))
 (focus ((repeat' first|exact trivial|exact rfl|exact .inl rfl|exact .inr ⟨rfl,rfl⟩|refine And.intro ?_ ?_);done))
end Go.Proofs.YtknelogmocedeaaGreatDoor.Pa
namespace Go.Proofs.YtknelogmocedeaaGreatDoor.Pa
open Go.RowKit Go.Shelf Go.Lib Tl Pr
open Fl (bl bt' bl_bt bl_of size_bl)
open Fi (one_arg encS all_take_succ all_bad)
set_option linter.unusedVariables false
variable (p : Nat → Addr)
set_option maxHeartbeats 4000000 in
theorem least_law(x:Att):Fn Tryz.prog (envX p) 3 [.v (.agg (cAtt x))] (.v (.bool true)):=by
 have hx:=CutA_fn (X:=envX p) x
 have hm:=CutA_mid x
 generalize CutA x=a at*
 have h1:=Attr_fn p a 1 hm
 have h0:=Attr_fn p a 0 hm
 have hl:=att_least (a:=a)
 unfold AttT at h0 h1
 cases hB:attB a 1
 ·rw[hB,if_neg (by decide)] at h1
  rw[hB] at hl
  cases hC:attB a 0
  ·rw[hC,if_neg (by decide)] at h0
   refine fn_prog tabOk mixed Tryz.f3 Tryz.func3 (by kernel_rfl) (by kernel_rfl) ?_
   conv=>whnf
   (refine st_call (shown_fn p) ?_ rfl rfl ?_;(focus ((repeat' first|exact trivial|exact rfl|exact .inl rfl|exact .inr ⟨rfl,rfl⟩|refine And.intro ?_ ?_);done));conv=>whnf)
   (refine st_call hx ?_ rfl rfl ?_;(focus ((repeat' first|exact trivial|exact rfl|exact .inl rfl|exact .inr ⟨rfl,rfl⟩|refine And.intro ?_ ?_);done));conv=>whnf)
   (refine st_call h1 ?_ rfl rfl ?_;(focus ((repeat' first|exact trivial|exact rfl|exact .inl rfl|exact .inr ⟨rfl,rfl⟩|refine And.intro ?_ ?_);done));conv=>whnf)
   (refine st_call h0 ?_ rfl rfl ?_;(focus ((repeat' first|exact trivial|exact rfl|exact .inl rfl|exact .inr ⟨rfl,rfl⟩|refine And.intro ?_ ?_);done));conv=>whnf)
   (repeat' (first | ((refine⟨rfl,cmp_true (by decide) ?_⟩) <;> (conv=>whnf)) | ((refine⟨rfl,cmp_false (by decide) ?_⟩) <;> (conv=>whnf)) | fail))
   (focus ((repeat' first|exact trivial|exact rfl|exact .inl rfl|exact .inr ⟨rfl,rfl⟩|refine And.intro ?_ ?_);done))
  ·rw[hC,if_pos rfl] at h0
   rw[hC,Bool.true_and,eq_comm,decide_eq_false_iff_not] at hl
   refine fn_prog tabOk mixed Tryz.f3 Tryz.func3 (by kernel_rfl) (by kernel_rfl) ?_
   conv=>whnf
   (refine st_call (shown_fn p) ?_ rfl rfl ?_;(focus ((repeat' first|exact trivial|exact rfl|exact .inl rfl|exact .inr ⟨rfl,rfl⟩|refine And.intro ?_ ?_);done));conv=>whnf)
   (refine st_call hx ?_ rfl rfl ?_;(focus ((repeat' first|exact trivial|exact rfl|exact .inl rfl|exact .inr ⟨rfl,rfl⟩|refine And.intro ?_ ?_);done));conv=>whnf)
   (refine st_call h1 ?_ rfl rfl ?_;(focus ((repeat' first|exact trivial|exact rfl|exact .inl rfl|exact .inr ⟨rfl,rfl⟩|refine And.intro ?_ ?_);done));conv=>whnf)
   (refine st_call h0 ?_ rfl rfl ?_;(focus ((repeat' first|exact trivial|exact rfl|exact .inl rfl|exact .inr ⟨rfl,rfl⟩|refine And.intro ?_ ?_);done));conv=>whnf)
   (repeat' (first | ((refine⟨rfl,cmp_true (by decide) ?_⟩) <;> (conv=>whnf)) | ((refine⟨rfl,cmp_false (by decide) ?_⟩) <;> (conv=>whnf)) | fail))
   refine⟨rfl,cmp_true (by rw[List.length_map];omega) ?_⟩
   conv=>whnf
   (focus ((repeat' first|exact trivial|exact rfl|exact .inl rfl|exact .inr ⟨rfl,rfl⟩|refine And.intro ?_ ?_);done))
 ·rw[hB,if_pos rfl] at h1
  rw[hB,eq_comm,Bool.and_eq_true,decide_eq_true_eq] at hl
  rw[hl.1,if_pos rfl] at h0
  have hs:=Tl.same_fn (X:=envX p) (attN a) (attN a) (limN_mid (attN_lim hB)) (limN_mid (attN_lim hB))
  rw[sameN_refl] at hs
  refine fn_prog tabOk mixed Tryz.f3 Tryz.func3 (by kernel_rfl) (by kernel_rfl) ?_
  conv=>whnf
  (refine st_call (shown_fn p) ?_ rfl rfl ?_;(focus ((repeat' first|exact trivial|exact rfl|exact .inl rfl|exact .inr ⟨rfl,rfl⟩|refine And.intro ?_ ?_);done));conv=>whnf)
  (refine st_call hx ?_ rfl rfl ?_;(focus ((repeat' first|exact trivial|exact rfl|exact .inl rfl|exact .inr ⟨rfl,rfl⟩|refine And.intro ?_ ?_);done));conv=>whnf)
  (refine st_call h1 ?_ rfl rfl ?_;(focus ((repeat' first|exact trivial|exact rfl|exact .inl rfl|exact .inr ⟨rfl,rfl⟩|refine And.intro ?_ ?_);done));conv=>whnf)
  (refine st_call h0 ?_ rfl rfl ?_;(focus ((repeat' first|exact trivial|exact rfl|exact .inl rfl|exact .inr ⟨rfl,rfl⟩|refine And.intro ?_ ?_);done));conv=>whnf)
  (repeat' (first | ((refine⟨rfl,cmp_true (by decide) ?_⟩) <;> (conv=>whnf)) | (((with_reducible apply st_call (hs));(focus ((repeat' first|exact trivial|exact rfl|exact .inl rfl|exact .inr ⟨rfl,rfl⟩|refine And.intro ?_ ?_);done));(focus (exact rfl));(focus (exact rfl))) <;> (conv=>whnf)) | fail))
  refine⟨rfl,cmp_true (by rw[List.length_map];omega) ?_⟩
  conv=>whnf
  (focus ((repeat' first|exact trivial|exact rfl|exact .inl rfl|exact .inr ⟨rfl,rfl⟩|refine And.intro ?_ ?_);done))
theorem index_none(c:UInt8):∀l:List UInt8,c∉l→index l [c]= -1
 | [],_=>rfl
 | b::t,h=>by
  rw[Txt.index_cons,if_neg (fun e=>h (by simp[e])),index_none c t (fun e=>h (by simp[e])),if_pos (by decide)]
theorem cut_none(c:UInt8)(l:List UInt8)(h:c∉l):(Lib.cut l [c]).2.2=false:=by
 unfold Lib.cut
 rw[index_none c l h]
 rfl
theorem end_all(c:UInt8):∀l:List UInt8,(∀b∈l,b≠92∧b≠c)→Dn.endL c l=l.length
 | [],_=>rfl
 | b::t,h=>by
  have hb:=h b (by simp)
  rw[Dn.endL_other c b hb.1 hb.2,end_all c t (fun x hx=>h x (by simp[hx])),List.length_cons,Nat.add_comm]
theorem pieces_one(c:UInt8)(l:List UInt8)(h:∀b∈l,b≠92∧b≠c):Dn.piecesL c l=[l]:=by
 unfold Dn.piecesL Dn.piecesF
 rw[if_pos (end_all c l h)]
theorem oid_dn{s:ByteArray}(h:oidB s=true):Dn.parsedOk s=false:=by
 unfold oidB at h
 rw[Bool.and_eq_true] at h
 have hb:=Dn.type_bytes _ h.1
 have hn:=type_ne h.1
 have ne:∀b∈bl s,b≠92∧b≠61∧b≠44∧b≠43:=fun b hm=>Dn.typeByte_ne b (hb b hm)
 have h1:Dn.rdnOf (bl s)=none:=by
  unfold Dn.rdnOf
  rw[pieces_one 43 _ (fun b hm=>⟨(ne b hm).1,(ne b hm).2.2.2⟩)]
  have h2:Dn.partA ⟨(bl s).toArray⟩=none:=by
   unfold Dn.partA
   rw[cut_none 61 _ (by show 61∉bl (bt' (bl s));rw[bl_of];exact fun hm=>(ne 61 hm).2.1 rfl),if_neg (by decide)]
  rw[Dn.allM,h2]
 unfold Dn.parsedOk Dn.parsedL
 rw[if_neg hn]
 unfold Dn.nameOf
 rw[pieces_one 44 _ (fun b hm=>⟨(ne b hm).1,(ne b hm).2.2.1⟩),Dn.allM,h1]
 rfl
theorem names_law(x:ByteArray):Fn Tryz.prog (envX p) 4 [.v (.str x)] (.v (.bool true)):=by
 have hx:=cut_fn (X:=envX p) x 210
 have hm:=cutB_size 210 x
 generalize cutB 210 x=s at*
 have h1:=Dn.parse_fn p s (by omega)
 have h2:=dn_fn p s (by omega)
 have h3:=oid_fn p s
 have h4:=Dn.type_fn p s
 have ho:oidB s=(Dn.typeB (bl s)&&match bl s with | []=>false | b::_=>decide (48≤b.toNat∧b.toNat≤57)):=rfl
 have hod:= @oid_dn s
 unfold dnB at h2
 cases hO:oidB s
 ·rw[hO] at h3
  cases hP:Dn.parsedOk s <;> rw[hP] at h1 h2
  ·refine fn_prog tabOk mixed Tryz.f4 Tryz.func4 (by kernel_rfl) (by kernel_rfl) ?_
   conv=>whnf
   (refine st_call (shown_fn p) ?_ rfl rfl ?_;(focus ((repeat' first|exact trivial|exact rfl|exact .inl rfl|exact .inr ⟨rfl,rfl⟩|refine And.intro ?_ ?_);done));conv=>whnf)
   (refine st_call hx ?_ rfl rfl ?_;(focus ((repeat' first|exact trivial|exact rfl|exact .inl rfl|exact .inr ⟨rfl,rfl⟩|refine And.intro ?_ ?_);done));conv=>whnf)
   (refine st_call h1 ?_ rfl rfl ?_;(focus ((repeat' first|exact trivial|exact rfl|exact .inl rfl|exact .inr ⟨rfl,rfl⟩|refine And.intro ?_ ?_);done));conv=>whnf)
   (refine st_call h2 ?_ rfl rfl ?_;(focus ((repeat' first|exact trivial|exact rfl|exact .inl rfl|exact .inr ⟨rfl,rfl⟩|refine And.intro ?_ ?_);done));conv=>whnf)
   (repeat' (first | ((refine⟨rfl,cmp_false (by decide) ?_⟩) <;> (conv=>whnf)) | ((refine cmp_true rfl ?_) <;> (conv=>whnf)) | (((with_reducible apply st_call (h3));(focus ((repeat' first|exact trivial|exact rfl|exact .inl rfl|exact .inr ⟨rfl,rfl⟩|refine And.intro ?_ ?_);done));(focus (exact rfl));(focus (exact rfl))) <;> (conv=>whnf)) | fail))
   (focus ((repeat' first|exact trivial|exact rfl|exact .inl rfl|exact .inr ⟨rfl,rfl⟩|refine And.intro ?_ ?_);done))
  ·by_cases hl:s.size≤200
   ·rw[show(true&&decide (s.size≤200))=true from decide_eq_true hl] at h2
    refine fn_prog tabOk mixed Tryz.f4 Tryz.func4 (by kernel_rfl) (by kernel_rfl) ?_
    conv=>whnf
    (refine st_call (shown_fn p) ?_ rfl rfl ?_;(focus ((repeat' first|exact trivial|exact rfl|exact .inl rfl|exact .inr ⟨rfl,rfl⟩|refine And.intro ?_ ?_);done));conv=>whnf)
    (refine st_call hx ?_ rfl rfl ?_;(focus ((repeat' first|exact trivial|exact rfl|exact .inl rfl|exact .inr ⟨rfl,rfl⟩|refine And.intro ?_ ?_);done));conv=>whnf)
    (refine st_call h1 ?_ rfl rfl ?_;(focus ((repeat' first|exact trivial|exact rfl|exact .inl rfl|exact .inr ⟨rfl,rfl⟩|refine And.intro ?_ ?_);done));conv=>whnf)
    (refine st_call h2 ?_ rfl rfl ?_;(focus ((repeat' first|exact trivial|exact rfl|exact .inl rfl|exact .inr ⟨rfl,rfl⟩|refine And.intro ?_ ?_);done));conv=>whnf)
    refine⟨rfl,cmp_true (by decide) ?_⟩
    conv=>whnf
    refine⟨rfl,cmp_true (by omega) ?_⟩
    conv=>whnf
    (repeat' (first | ((refine cmp_true rfl ?_) <;> (conv=>whnf)) | (((with_reducible apply st_call (h3));(focus ((repeat' first|exact trivial|exact rfl|exact .inl rfl|exact .inr ⟨rfl,rfl⟩|refine And.intro ?_ ?_);done));(focus (exact rfl));(focus (exact rfl))) <;> (conv=>whnf)) | fail))
    (focus ((repeat' first|exact trivial|exact rfl|exact .inl rfl|exact .inr ⟨rfl,rfl⟩|refine And.intro ?_ ?_);done))
   ·rw[show(true&&decide (s.size≤200))=false from decide_eq_false hl] at h2
    refine fn_prog tabOk mixed Tryz.f4 Tryz.func4 (by kernel_rfl) (by kernel_rfl) ?_
    conv=>whnf
    (refine st_call (shown_fn p) ?_ rfl rfl ?_;(focus ((repeat' first|exact trivial|exact rfl|exact .inl rfl|exact .inr ⟨rfl,rfl⟩|refine And.intro ?_ ?_);done));conv=>whnf)
    (refine st_call hx ?_ rfl rfl ?_;(focus ((repeat' first|exact trivial|exact rfl|exact .inl rfl|exact .inr ⟨rfl,rfl⟩|refine And.intro ?_ ?_);done));conv=>whnf)
    (refine st_call h1 ?_ rfl rfl ?_;(focus ((repeat' first|exact trivial|exact rfl|exact .inl rfl|exact .inr ⟨rfl,rfl⟩|refine And.intro ?_ ?_);done));conv=>whnf)
    (refine st_call h2 ?_ rfl rfl ?_;(focus ((repeat' first|exact trivial|exact rfl|exact .inl rfl|exact .inr ⟨rfl,rfl⟩|refine And.intro ?_ ?_);done));conv=>whnf)
    refine⟨rfl,cmp_true (by decide) ?_⟩
    conv=>whnf
    refine⟨rfl,cmp_false (by omega) ?_⟩
    conv=>whnf
    (repeat' (first | ((refine cmp_true rfl ?_) <;> (conv=>whnf)) | (((with_reducible apply st_call (h3));(focus ((repeat' first|exact trivial|exact rfl|exact .inl rfl|exact .inr ⟨rfl,rfl⟩|refine And.intro ?_ ?_);done));(focus (exact rfl));(focus (exact rfl))) <;> (conv=>whnf)) | fail))
    (focus ((repeat' first|exact trivial|exact rfl|exact .inl rfl|exact .inr ⟨rfl,rfl⟩|refine And.intro ?_ ?_);done))
 ·rw[hod hO] at h1 h2
  rw[hO] at h3
  rw[hO,eq_comm,Bool.and_eq_true] at ho
  obtain⟨o1,o2⟩:=ho
  obtain⟨b,r,hbr⟩:∃b r,bl s=b::r:=List.exists_cons_of_ne_nil (type_ne o1)
  have hi:s.data.toList[((0:Nat):Int).toNat]? =some b:=by show(bl s)[0]? =_;rw[hbr];rfl
  rw[hbr] at o2
  have o3:=of_decide_eq_true o2
  have h4':Fn Tryz.prog (envX p) 19 [.v (.str s)] (.v (.bool true)):=o1 ▸ h4
  refine fn_prog tabOk mixed Tryz.f4 Tryz.func4 (by kernel_rfl) (by kernel_rfl) ?_
  conv=>whnf
  (refine st_call (shown_fn p) ?_ rfl rfl ?_;(focus ((repeat' first|exact trivial|exact rfl|exact .inl rfl|exact .inr ⟨rfl,rfl⟩|refine And.intro ?_ ?_);done));conv=>whnf)
  (refine st_call hx ?_ rfl rfl ?_;(focus ((repeat' first|exact trivial|exact rfl|exact .inl rfl|exact .inr ⟨rfl,rfl⟩|refine And.intro ?_ ?_);done));conv=>whnf)
  (refine st_call h1 ?_ rfl rfl ?_;(focus ((repeat' first|exact trivial|exact rfl|exact .inl rfl|exact .inr ⟨rfl,rfl⟩|refine And.intro ?_ ?_);done));conv=>whnf)
  (refine st_call h2 ?_ rfl rfl ?_;(focus ((repeat' first|exact trivial|exact rfl|exact .inl rfl|exact .inr ⟨rfl,rfl⟩|refine And.intro ?_ ?_);done));conv=>whnf)
  refine⟨rfl,cmp_false (by decide) ?_⟩
  conv=>whnf
  (repeat' (first | ((refine cmp_true rfl ?_) <;> (conv=>whnf)) | fail))
  (refine st_call h3 ?_ rfl rfl ?_;(focus ((repeat' first|exact trivial|exact rfl|exact .inl rfl|exact .inr ⟨rfl,rfl⟩|refine And.intro ?_ ?_);done));conv=>whnf)
  (refine st_call h4' ?_ rfl rfl ?_;(focus ((repeat' first|exact trivial|exact rfl|exact .inl rfl|exact .inr ⟨rfl,rfl⟩|refine And.intro ?_ ?_);done));conv=>whnf)
  refine cmp_true (fun e=>by rw[e] at hbr;cases hbr) ?_
  conv=>whnf
  refine⟨b,by omega,hi,?_⟩
  conv=>whnf
  refine⟨rfl,cmp_true (by omega) ?_⟩
  conv=>whnf
  refine⟨b,by omega,hi,?_⟩
  conv=>whnf
  refine⟨rfl,cmp_true (by omega) ?_⟩
  conv=>whnf
  (refine st_call h3 ?_ rfl rfl ?_;(focus ((repeat' first|exact trivial|exact rfl|exact .inl rfl|exact .inr ⟨rfl,rfl⟩|refine And.intro ?_ ?_);done));conv=>whnf)
  (refine st_call h2 ?_ rfl rfl ?_;(focus ((repeat' first|exact trivial|exact rfl|exact .inl rfl|exact .inr ⟨rfl,rfl⟩|refine And.intro ?_ ?_);done));conv=>whnf)
  (focus ((repeat' first|exact trivial|exact rfl|exact .inl rfl|exact .inr ⟨rfl,rfl⟩|refine And.intro ?_ ?_);done))
end Go.Proofs.YtknelogmocedeaaGreatDoor.Pa
