/- Several texts, one behind the other. rep, walked: errors told, what operations have, rules. Conditions: as in these contracts. latinerref08.Same, latinerref11.Same, walked: the same filters, the same messages. Conditions: at most 10^8 in each list. latinerref11.SameAttrs, SameSearch, Same, walked: the same messages. Conditions: at most 10^8 in each list. latinerref11.Same, walked: the same messages. Conditions: at most 10^8 in each list. The walk without memory: a body in pieces; behind a piece no more is kept than what is said. Whatever program. -/
import Derived.Test.YtknelogmocedeaaGreatDoorR29
import Derived.Test.YtknelogmocedeaaGreatDoorR30
import Derived.Test.YtknelogmocedeaaGreatDoorR22
namespace Go.Proofs.YtknelogmocedeaaGreatDoor.Rp
open Go.RowKit Go.Shelf Go.Lib Tl Pr Pa Ms
open Fl (bl bt' bl_bt bl_of size_bl Flt)
open Fi (one_arg encS cF cG all_take_succ all_bad)
set_option linter.unusedVariables false
variable {X : En} (p : Nat → Addr)
def reErr(op:Int):V:=.ifc 192 (.agg [.int .i64 op])
theorem told_nil_fn:Fn Tryz.prog (envX p) 73 [.v .nili] (.v (.int .i64 0)):=
 Fn.of_plain (enter_of (by kernel_rfl)) rfl fun w L vs hE ha=>by
  obtain⟨v,rfl,h⟩:=one_arg ha
  rw[show v=.nilIface from h]
  exact ToldRep.told_nil w p hE.gl
theorem told_wrong_fn(op:Int):Fn Tryz.prog (envX p) 73 [.v (reErr op)] (.v (.int .i64 120)):=
 Fn.of_plain (enter_of (by kernel_rfl)) rfl fun w L vs hE ha=>by
  obtain⟨v,rfl,h⟩:=one_arg ha
  obtain⟨u,rfl,cs,rfl,h1⟩:=h
  obtain⟨u,us,h2,_,h3,h4⟩:=h1
  have:cs=#[.int .i64 op]:=by
   rw[show us=[] from h4,show u=_ from h3] at h2
   exact Array.toList_inj.1 h2
  rw[this]
  exact ToldRep.told_wrong (.int .i64 op) rfl w p hE.gl
theorem leaf_fn(tag:Int)(s:ByteArray):Fn Tryz.prog X 111 [.v (.int .i64 tag),.v (.str s)] (.v (.agg (cM (leafN tag s)))):=by
 refine fn_prog (tab_nz tabOk) mixed Tryz.f111 Tryz.func111 (by kernel_rfl) (by kernel_rfl) ?_
 conv=>whnf
 (focus ((repeat' first|exact trivial|exact rfl|exact .inl rfl|exact .inr ⟨rfl,rfl⟩|refine And.intro ?_ ?_);done))
def cShp(s:Shp):List V:=[.bool s.res,.bool s.val,.bool s.oid,.bool s.ent,.bool s.refs,.int .i64 s.oidT,.int .i64 s.valT]
def shpT:Option Shp→T
 | some s=>.tup [.v (.agg (cShp s)),.v (.bool true)]
 | none=>.tup [.v (.agg (cShp shp0)),.v (.bool false)]
set_option maxHeartbeats 4000000 in
theorem shaped_fn(op:Int):Fn Tryz.prog X 78 [.v (.int .i64 op)] (shpT (shapeF op)):=by
 refine fn_prog tabOk mixed Tryz.f78 Tryz.func78 (by kernel_rfl) (by kernel_rfl) ?_
 conv=>whnf
 (repeat' (first | (refine⟨rfl,cmp_split (fun h=>?_) (fun h=>?_)⟩ <;> (conv=>whnf)) | fail))
 all_goals
  first
   | (rw[show shapeF op=some ⟨true,true,true,false,false,138,139⟩ from by unfold shapeF;rw[if_pos (by omega)]];(focus ((repeat' first|exact trivial|exact rfl|exact .inl rfl|exact .inr ⟨rfl,rfl⟩|refine And.intro ?_ ?_);done));done)
   | (rw[show shapeF op=some ⟨true,true,false,false,false,0,135⟩ from by unfold shapeF;rw[if_neg (by omega),if_pos (by omega)]];(focus ((repeat' first|exact trivial|exact rfl|exact .inl rfl|exact .inr ⟨rfl,rfl⟩|refine And.intro ?_ ?_);done));done)
   | (rw[show shapeF op=some ⟨true,false,false,false,false,0,0⟩ from by unfold shapeF;rw[if_neg (by omega),if_neg (by omega),if_pos (by omega)]];(focus ((repeat' first|exact trivial|exact rfl|exact .inl rfl|exact .inr ⟨rfl,rfl⟩|refine And.intro ?_ ?_);done));done)
   | (rw[show shapeF op=some ⟨false,false,false,true,false,0,0⟩ from by unfold shapeF;rw[if_neg (by omega),if_neg (by omega),if_neg (by omega),if_pos (by omega)]];(focus ((repeat' first|exact trivial|exact rfl|exact .inl rfl|exact .inr ⟨rfl,rfl⟩|refine And.intro ?_ ?_);done));done)
   | (rw[show shapeF op=some ⟨false,false,false,false,true,0,0⟩ from by unfold shapeF;rw[if_neg (by omega),if_neg (by omega),if_neg (by omega),if_neg (by omega),if_pos (by omega)]];(focus ((repeat' first|exact trivial|exact rfl|exact .inl rfl|exact .inr ⟨rfl,rfl⟩|refine And.intro ?_ ?_);done));done)
   | (rw[show shapeF op=some ⟨false,true,true,false,false,128,129⟩ from by unfold shapeF;rw[if_neg (by omega),if_neg (by omega),if_neg (by omega),if_neg (by omega),if_neg (by omega),if_pos (by omega)]];(focus ((repeat' first|exact trivial|exact rfl|exact .inl rfl|exact .inr ⟨rfl,rfl⟩|refine And.intro ?_ ?_);done));done)
   | (rw[show shapeF op=none from by unfold shapeF;rw[if_neg (by omega),if_neg (by omega),if_neg (by omega),if_neg (by omega),if_neg (by omega),if_neg (by omega)]];(focus ((repeat' first|exact trivial|exact rfl|exact .inl rfl|exact .inr ⟨rfl,rfl⟩|refine And.intro ?_ ?_);done));done)
def encB(b:Bool):List V:=[V.bool b]
def idxB(l:List Bool):Int:=if l.findIdx id < l.length then((l.findIdx id:Nat):Int) else -1
theorem index_fn(l:List Bool)(hl:l.length≤1000000):Fn Tryz.prog X 190 [.v (.sl (l.map encB)),.v (.bool true)] (.v (.int .i64 (idxB l))):=by
 refine fn_prog tabOk mixed Tryz.f190 Tryz.func190 (by kernel_rfl) (by kernel_rfl) ?_
 conv=>whnf
 refine⟨Nat,fun i=>⟨19,[(0,.v (.sl (l.map encB))),(1,.v (.bool true)),(6,.v (.sl (l.map encB))),(7,.v (.int .i64 ((l.map encB).length:Nat))),(8,.v (.int .i64 (i:Nat)))],[],[]⟩,fun i=>i≤l.length∧∀j (h:j < i) (h2:j < l.length),l[j]=false,fun i=>l.length - i,⟨0,[],⟨by omega,fun j h=>by omega⟩,?_⟩,fun i ⟨hi,ha⟩=>?_⟩
 ·(focus ((repeat' first|exact trivial|exact rfl|exact .inl rfl|exact .inr ⟨rfl,rfl⟩|refine And.intro ?_ ?_);done))
 conv=>whnf
 refine⟨rfl,cmp_split (fun h=>?_) (fun h=>?_)⟩
 ·rw[List.length_map] at h
  have hil:i < l.length:=by omega
  conv=>whnf
  refine st_idx hil rfl ?_
  cases hb:l[i]
  ·conv=>whnf
   refine cmp_false (by decide) ?_
   conv=>whnf
   refine⟨rfl,st_succ (by omega) ?_⟩
   conv=>whnf
   refine⟨i+1,[],⟨by omega,fun j hj h2=>?_⟩,by dsimp only;omega,?_⟩
   ·by_cases e:j=i
    ·subst e;exact hb
    ·exact ha j (by omega) h2
   (focus ((repeat' first|exact trivial|exact rfl|exact .inl rfl|exact .inr ⟨rfl,rfl⟩|refine And.intro ?_ ?_);done))
  ·conv=>whnf
   refine cmp_true rfl ?_
   conv=>whnf
   have hx:l.findIdx id=i:=(List.findIdx_eq hil).2 ⟨hb,fun j hj=>ha j hj (by omega)⟩
   unfold idxB
   rw[hx,if_pos hil]
   (focus ((repeat' first|exact trivial|exact rfl|exact .inl rfl|exact .inr ⟨rfl,rfl⟩|refine And.intro ?_ ?_);done))
 ·rw[List.length_map] at h
  conv=>whnf
  have hx:l.findIdx id=l.length:=List.findIdx_eq_length.2 fun x hx=>by
   obtain⟨j,hj,rfl⟩:=List.mem_iff_getElem.1 hx
   exact ha j (by omega) hj
  unfold idxB
  rw[hx,if_neg (by omega)]
  (focus ((repeat' first|exact trivial|exact rfl|exact .inl rfl|exact .inr ⟨rfl,rfl⟩|refine And.intro ?_ ?_);done))
theorem isNone_fn(l:List Bool)(hl:l.length≤1000000):Fn Tryz.prog X 143 [.v (.sl (l.map encB))] (.v (.bool (l.all fun b=> !b))):=by
 have h1:=index_fn (X:=X) l hl
 have h2:Fn Tryz.prog X 174 [.v (.sl (l.map encB)),.v (.bool true)] (.v (.bool (decide (0≤idxB l)))):=by
  refine fn_prog tabOk mixed Tryz.f174 Tryz.func174 (by kernel_rfl) (by kernel_rfl) ?_
  conv=>whnf
  (refine st_call h1 ?_ rfl rfl ?_;(focus ((repeat' first|exact trivial|exact rfl|exact .inl rfl|exact .inr ⟨rfl,rfl⟩|refine And.intro ?_ ?_);done));conv=>whnf)
  refine⟨rfl,cmp_bool ?_⟩
  conv=>whnf
  (focus ((repeat' first|exact trivial|exact rfl|exact .inl rfl|exact .inr ⟨rfl,rfl⟩|refine And.intro ?_ ?_);done))
 have he:(l.all fun b=> !b)= !decide (0≤idxB l):=by
  unfold idxB
  by_cases h:l.findIdx id < l.length
  ·rw[if_pos h,decide_eq_true (by omega)]
   have:=List.findIdx_getElem (w:=h)
   exact Bool.eq_false_iff.2 fun e=>by
    have h3:=List.all_eq_true.1 e _ (List.getElem_mem h)
    simp only[id] at this
    rw[this] at h3
    cases h3
  ·rw[if_neg h,decide_eq_false (by omega)]
   have h3:l.findIdx id=l.length:=Nat.le_antisymm List.findIdx_le_length (by omega)
   exact List.all_eq_true.2 fun x hx=>by
    have:=List.findIdx_eq_length.1 h3 x hx
    simp only[id] at this
    rw[this]
    rfl
 rw[he]
 cases hd:decide (0≤idxB l) <;> rw[hd] at h2
 all_goals
  refine fn_prog tabOk mixed Tryz.f143 Tryz.func143 (by kernel_rfl) (by kernel_rfl) ?_
  conv=>whnf
  (refine st_call h2 ?_ rfl rfl ?_;(focus ((repeat' first|exact trivial|exact rfl|exact .inl rfl|exact .inr ⟨rfl,rfl⟩|refine And.intro ?_ ?_);done));conv=>whnf)
  (focus ((repeat' first|exact trivial|exact rfl|exact .inl rfl|exact .inr ⟨rfl,rfl⟩|refine And.intro ?_ ?_);done))
theorem empty_fn(r:Res):Fn Tryz.prog X 145 [.v (.agg (cRes r))] (.v (.bool (emptyR r))):=by
 have hn:=isNone_fn (X:=X) [decide (r.code≠0),decide (r.dn≠⟨#[]⟩),decide (r.text≠⟨#[]⟩),decide ((((r.refs.map encS).length:Nat):Int) > 0)] (by simp)
 have he:([decide (r.code≠0),decide (r.dn≠⟨#[]⟩),decide (r.text≠⟨#[]⟩),decide ((((r.refs.map encS).length:Nat):Int) > 0)].all fun b=> !b)=emptyR r:=by
  unfold emptyR
  simp only[List.all_cons,List.all_nil,Bool.and_true,List.length_map]
  congr 1
  ·simp
  congr 1
  ·by_cases h:r.dn.size=0
   ·rw[decide_eq_true h,Fi.size0.1 h];rfl
   ·rw[decide_eq_false h,show decide (r.dn≠⟨#[]⟩)=true from decide_eq_true (fun e=>h (Fi.size0.2 e))];rfl
  congr 1
  ·by_cases h:r.text.size=0
   ·rw[decide_eq_true h,Fi.size0.1 h];rfl
   ·rw[decide_eq_false h,show decide (r.text≠⟨#[]⟩)=true from decide_eq_true (fun e=>h (Fi.size0.2 e))];rfl
  ·cases r.refs <;> simp
 rw[he] at hn
 refine fn_prog tabOk mixed Tryz.f145 Tryz.func145 (by kernel_rfl) (by kernel_rfl) ?_
 conv=>whnf
 refine⟨rfl,cmp_bool ?_⟩
 conv=>whnf
 refine cmp_bool ?_
 conv=>whnf
 refine cmp_bool ?_
 conv=>whnf
 refine⟨rfl,cmp_bool ?_⟩
 conv=>whnf
 (refine st_call hn ?_ rfl rfl ?_;(focus ((repeat' first|exact trivial|exact rfl|exact .inl rfl|exact .inr ⟨rfl,rfl⟩|refine And.intro ?_ ?_);done));conv=>whnf)
 (focus ((repeat' first|exact trivial|exact rfl|exact .inl rfl|exact .inr ⟨rfl,rfl⟩|refine And.intro ?_ ?_);done))
theorem ref_fn(s:ByteArray)(hs:s.size≤1000000000):Fn Tryz.prog (envX p) 148 [.v (.str s)] (.v (.bool (refB s))):=by
 have hu:=utf_fn p s hs
 unfold refB
 refine fn_prog tabOk mixed Tryz.f148 Tryz.func148 (by kernel_rfl) (by kernel_rfl) ?_
 conv=>whnf
 refine cmp_split (fun h=>?_) (fun h=>?_) <;> (conv=>whnf)
 rotate_left
 ·rw[show decide (s.size≠0)=false from decide_eq_false (fun e=>e (Fi.size0.2 (Decidable.not_not.1 h))),Bool.false_and]
  (focus ((repeat' first|exact trivial|exact rfl|exact .inl rfl|exact .inr ⟨rfl,rfl⟩|refine And.intro ?_ ?_);done))
 rw[show decide (s.size≠0)=true from decide_eq_true (fun e=>h (Fi.size0.1 e)),Bool.true_and]
 refine⟨rfl,cmp_split (fun h=>?_) (fun h=>?_)⟩ <;> (conv=>whnf)
 ·rw[show decide (s.size≤60)=true from decide_eq_true (by omega),Bool.true_and]
  (refine st_call hu ?_ rfl rfl ?_;(focus ((repeat' first|exact trivial|exact rfl|exact .inl rfl|exact .inr ⟨rfl,rfl⟩|refine And.intro ?_ ?_);done));conv=>whnf)
  (focus ((repeat' first|exact trivial|exact rfl|exact .inl rfl|exact .inr ⟨rfl,rfl⟩|refine And.intro ?_ ?_);done))
 ·rw[show decide (s.size≤60)=false from decide_eq_false (by omega),Bool.false_and]
  (focus ((repeat' first|exact trivial|exact rfl|exact .inl rfl|exact .inr ⟨rfl,rfl⟩|refine And.intro ?_ ?_);done))
theorem all_fn(l:List ByteArray)(hl:l.length≤100000000)(hs:∀s∈l,s.size≤1000000000):Fn Tryz.prog (envX p) 147 [.fn 148 [],.v (.sl (l.map encS))] (.v (.bool (l.all refB))):=by
 refine fn_prog tabOk mixed Tryz.f147 Tryz.func147 (by kernel_rfl) (by kernel_rfl) ?_
 conv=>whnf
 refine⟨Nat,fun i=>⟨18,[(0,.fn 148 []),(7,.v (.sl (l.map encS))),(8,.v (.int .i64 ((l.map encS).length:Nat))),(9,.v (.int .i64 (i:Nat)))],[],[]⟩,fun i=>i≤l.length∧(l.take i).all refB=true,fun i=>l.length - i,⟨0,[],⟨by omega,rfl⟩,?_⟩,fun i ⟨hi,ha⟩=>?_⟩
 ·(focus ((repeat' first|exact trivial|exact rfl|exact .inl rfl|exact .inr ⟨rfl,rfl⟩|refine And.intro ?_ ?_);done))
 conv=>whnf
 refine⟨rfl,cmp_split (fun h=>?_) (fun h=>?_)⟩
 ·rw[List.length_map] at h
  have hil:i < l.length:=by omega
  conv=>whnf
  refine st_idx hil rfl ?_
  conv=>whnf
  refine st_callB (ref_fn p l[i] (hs _ (List.getElem_mem hil))) ⟨.inl rfl,trivial⟩ rfl (fun h3=>?_) (fun h3=>?_)
  ·conv=>whnf
   refine⟨rfl,st_succ (by omega) ?_⟩
   conv=>whnf
   refine⟨i+1,[],⟨hil,by rw[all_take_succ _ _ _ hil,ha,Bool.true_and];exact h3⟩,by dsimp only;omega,?_⟩
   (focus ((repeat' first|exact trivial|exact rfl|exact .inl rfl|exact .inr ⟨rfl,rfl⟩|refine And.intro ?_ ?_);done))
  ·conv=>whnf
   rw[all_bad hil h3]
   (focus ((repeat' first|exact trivial|exact rfl|exact .inl rfl|exact .inr ⟨rfl,rfl⟩|refine And.intro ?_ ?_);done))
 ·rw[List.length_map] at h
  rw[List.take_of_length_le (by omega)] at ha
  conv=>whnf
  rw[ha]
  (focus ((repeat' first|exact trivial|exact rfl|exact .inl rfl|exact .inr ⟨rfl,rfl⟩|refine And.intro ?_ ?_);done))
end Go.Proofs.YtknelogmocedeaaGreatDoor.Rp
namespace Go.Proofs.YtknelogmocedeaaGreatDoor.Ms
open Go.RowKit Go.Shelf Go.Lib Tl Pr Pa
open Fl (bl bt' bl_bt bl_of size_bl Flt sameF sameFs sameF_iff sameFs_iff)
open Fi (one_arg encS cF cG cG_eq midF midFs midFs_mem CutF CutF_fn st_idxF)
set_option linter.unusedVariables false
variable {X : En}
theorem fs_false{l m:List Flt}{i:Nat}(h:i < l.length)(h':i < m.length)(hf:sameF l[i] m[i]=false):sameFs l m=false:=by
 cases hq:sameFs l m
 ·rfl
 ·have:=(sameFs_iff l m).1 hq
  subst this
  rw[Fl.sameF_refl] at hf;cases hf
theorem fs_all{l m:List Flt}(hab:l.length=m.length)(h:∀j (h1:j < l.length) (h2:j < m.length),sameF l[j] m[j]=true):sameFs l m=true:=
 (sameFs_iff l m).2 (List.ext_getElem hab fun j h1 h2=>(sameF_iff _ _).1 (h j h1 h2))
set_option maxHeartbeats 8000000 in
theorem refSameF_one(x y:Flt)(hl:x.l.length≤100000000)(hv:x.any.length≤100000000)(hf:∀a∈x.l,∀b∈y.l,Fn Tryz.prog X 112 [.v (.agg (cG a)),.v (.agg (cG b))] (.v (.bool (sameF a b)))):Fn Tryz.prog X 112 [.v (.agg (cG x)),.v (.agg (cG y))] (.v (.bool (sameF x y))):=by
 have hs:sameF x y=(decide (x.kind=y.kind)&&(decide (x.name=y.name)&&(decide (x.value=y.value)&&(decide (x.final=y.final)&&(decide (x.any=y.any)&&sameFs x.l y.l))))):=by cases x;cases y;rfl
 have ht:=Fi.texts_fn (X:=X) x.any y.any (by omega)
 by_cases hall:x.kind=y.kind∧x.name=y.name∧x.value=y.value∧x.final=y.final∧x.any=y.any
 rotate_left
 ·have hz:sameF x y=false:=by
   cases hq:sameF x y
   ·rfl
   ·rw[hs] at hq
    simp only[Bool.and_eq_true,decide_eq_true_eq] at hq
    exact absurd ⟨hq.1,hq.2.1,hq.2.2.1,hq.2.2.2.1,hq.2.2.2.2.1⟩ hall
  rw[hz]
  clear hs hz hf
  refine fn_prog tabOk mixed Tryz.f112 Tryz.func112 (by kernel_rfl) (by kernel_rfl) ?_
  conv=>whnf
  refine⟨rfl,cmp_split (fun h1=>?_) (fun h1=>?_)⟩
  ·conv=>whnf
   (focus ((repeat' first|exact trivial|exact rfl|exact .inl rfl|exact .inr ⟨rfl,rfl⟩|refine And.intro ?_ ?_);done))
  conv=>whnf
  refine cmp_split (fun h2=>?_) (fun h2=>?_)
  ·conv=>whnf
   (focus ((repeat' first|exact trivial|exact rfl|exact .inl rfl|exact .inr ⟨rfl,rfl⟩|refine And.intro ?_ ?_);done))
  conv=>whnf
  refine cmp_split (fun h3=>?_) (fun h3=>?_)
  ·conv=>whnf
   (focus ((repeat' first|exact trivial|exact rfl|exact .inl rfl|exact .inr ⟨rfl,rfl⟩|refine And.intro ?_ ?_);done))
  conv=>whnf
  refine cmp_split (fun h4=>?_) (fun h4=>?_)
  ·conv=>whnf
   (focus ((repeat' first|exact trivial|exact rfl|exact .inl rfl|exact .inr ⟨rfl,rfl⟩|refine And.intro ?_ ?_);done))
  conv=>whnf
  have h5:x.any≠y.any:=fun h5=>hall ⟨Decidable.not_not.1 h1,Decidable.not_not.1 h2,Decidable.not_not.1 h3,Decidable.not_not.1 h4,h5⟩
  rw[decide_eq_false h5] at ht
  (refine st_call ht ?_ rfl rfl ?_;(focus ((repeat' first|exact trivial|exact rfl|exact .inl rfl|exact .inr ⟨rfl,rfl⟩|refine And.intro ?_ ?_);done));conv=>whnf)
  (focus ((repeat' first|exact trivial|exact rfl|exact .inl rfl|exact .inr ⟨rfl,rfl⟩|refine And.intro ?_ ?_);done))
 obtain⟨h1,h2,h3,h4,h5⟩:=hall
 rw[hs]
 simp only[h1,h2,h3,h4,h5,decide_true,Bool.true_and]
 rw[decide_eq_true h5] at ht
 clear hs
 refine fn_prog tabOk mixed Tryz.f112 Tryz.func112 (by kernel_rfl) (by kernel_rfl) ?_
 conv=>whnf
 refine⟨rfl,cmp_false (fun e=>e h1) ?_⟩
 conv=>whnf
 refine cmp_false (fun e=>e h2) ?_
 conv=>whnf
 refine cmp_false (fun e=>e h3) ?_
 conv=>whnf
 refine cmp_false (fun e=>e h4) ?_
 conv=>whnf
 (refine st_call ht ?_ rfl rfl ?_;(focus ((repeat' first|exact trivial|exact rfl|exact .inl rfl|exact .inr ⟨rfl,rfl⟩|refine And.intro ?_ ?_);done));conv=>whnf)
 generalize x.l=l at*
 generalize y.l=m at*
 refine⟨rfl,cmp_split (fun h=>?_) (fun h=>?_)⟩
 ·rw[List.length_map,List.length_map] at h
  conv=>whnf
  refine⟨.inl (congrArg V.bool ?_),rfl⟩
  cases hq:sameFs l m
  ·rfl
  ·exact absurd (by rw[(sameFs_iff l m).1 hq]) h
 rw[List.length_map,List.length_map] at h
 have hab:l.length=m.length:=by omega
 conv=>whnf
 refine⟨Nat,fun i=>⟨68,[(2,.ptr 2 0),(3,.ptr 3 0),(5,.v (.int .i64 (i:Nat)))],[(2,[.v (.int .i64 x.kind),.v (.str x.name),.v (.str x.value),.v (.sl (x.any.map encS)),.v (.str x.final),.v (.sl (l.map cF))]),(3,[.v (.int .i64 y.kind),.v (.str y.name),.v (.str y.value),.v (.sl (y.any.map encS)),.v (.str y.final),.v (.sl (m.map cF))])],[]⟩,fun i=>i≤l.length∧∀j (h:j < i) (h1:j < l.length) (h2:j < m.length),sameF l[j] m[j]=true,fun i=>l.length - i,⟨0,[],⟨Nat.zero_le _,fun j h=>by omega⟩,?_⟩,fun i ⟨hi,he⟩=>?_⟩
 ·(focus ((repeat' first|exact trivial|exact rfl|exact .inl rfl|exact .inr ⟨rfl,rfl⟩|refine And.intro ?_ ?_);done))
 conv=>whnf
 refine⟨rfl,cmp_split (fun h=>?_) (fun h=>?_)⟩
 ·rw[List.length_map] at h
  have hil:i < l.length:=by omega
  have him:i < m.length:=by omega
  conv=>whnf
  refine⟨none,by kernel_rfl,?_⟩;conv=>whnf
  refine st_idxF hil ?_
  conv=>whnf
  refine st_idxF him ?_
  conv=>whnf
  refine st_callB (hf l[i] (List.getElem_mem hil) m[i] (List.getElem_mem him)) ⟨.inl rfl,.inl rfl,trivial⟩ rfl (fun h2=>?_) (fun h2=>?_)
  ·conv=>whnf
   refine⟨rfl,st_succ (by omega) ?_⟩
   conv=>whnf
   refine⟨i+1,[],⟨by omega,fun j hj h1 h3=>?_⟩,by dsimp only;omega,?_⟩
   ·by_cases e:j=i
    ·subst e;exact h2
    ·exact he j (by omega) h1 h3
   ·(focus ((repeat' first|exact trivial|exact rfl|exact .inl rfl|exact .inr ⟨rfl,rfl⟩|refine And.intro ?_ ?_);done))
  ·conv=>whnf
   exact⟨.inl (congrArg V.bool (fs_false hil him h2).symm),rfl⟩
 ·rw[List.length_map] at h
  conv=>whnf
  exact⟨.inl (congrArg V.bool (fs_all hab fun j h1 h2=>he j (by omega) h1 h2).symm),rfl⟩
mutual
theorem refSameF_fn:∀(x:Flt) (y:Flt),midF x→Fn Tryz.prog X 112 [.v (.agg (cG x)),.v (.agg (cG y))] (.v (.bool (sameF x y)))
 | .mk k n v a f l,y,hx=>by
  have hl:=refSameF_fns l
  obtain⟨_,_,_,x1,x2,x3⟩:=hx
  exact refSameF_one (.mk k n v a f l) y x2 x1 (fun z hz u hu=>hl z hz u (midFs_mem x3 z hz))
theorem refSameF_fns:∀(l:List Flt),∀z∈l,∀(y:Flt),midF z→Fn Tryz.prog X 112 [.v (.agg (cG z)),.v (.agg (cG y))] (.v (.bool (sameF z y)))
 | [],z,hz,_=>by cases hz
 | x::r,z,hz,y=>by
  intro h1
  have hx:=refSameF_fn x
  have hr:=refSameF_fns r
  rcases List.mem_cons.1 hz with e | hz
  ·rw[e] at h1 ⊢;exact hx y h1
  ·exact hr z hz y h1
end
end Go.Proofs.YtknelogmocedeaaGreatDoor.Ms
namespace Go.Proofs.YtknelogmocedeaaGreatDoor.Ms
open Go.RowKit Go.Shelf Go.Lib Tl Pr Pa
open Fl (bl bt' bl_bt bl_of size_bl Flt sameF sameFs sameF_iff sameFs_iff)
open Fi (one_arg encS cF cG cG_eq midF midFs midFs_mem CutF CutF_fn st_idxF)
set_option linter.unusedVariables false
variable {X : En}
theorem sameA_eq(a b:Att):sameA a b=attE a b:=rfl
theorem atts_false{l m:List Att}{i:Nat}(h:i < l.length)(h':i < m.length)(hf:attE l[i] m[i]=false):attsE l m=false:=by
 cases hq:attsE l m
 ·rfl
 ·have:=(attsE_iff l m).1 hq
  subst this
  rw[(attE_iff _ _).2 rfl] at hf;cases hf
theorem atts_all{l m:List Att}(hab:l.length=m.length)(h:∀j (h1:j < l.length) (h2:j < m.length),attE l[j] m[j]=true):attsE l m=true:=
 (attsE_iff l m).2 (List.ext_getElem hab fun j h1 h2=>(attE_iff _ _).1 (h j h1 h2))
theorem sameAttrs_fn(l m:List Att)(hl:l.length≤100000000)(hv:∀a∈l,a.vals.length≤100000000):Fn Tryz.prog X 75 [.v (.sl (l.map cAtt)),.v (.sl (m.map cAtt))] (.v (.bool (attsE l m))):=by
 refine fn_prog tabOk mixed Tryz.f75 Tryz.func75 (by kernel_rfl) (by kernel_rfl) ?_
 conv=>whnf
 refine⟨rfl,cmp_split (fun h=>?_) (fun h=>?_)⟩
 ·rw[List.length_map,List.length_map] at h
  conv=>whnf
  refine⟨.inl (congrArg V.bool ?_),rfl⟩
  cases hq:attsE l m
  ·rfl
  ·exact absurd (by rw[(attsE_iff l m).1 hq]) h
 rw[List.length_map,List.length_map] at h
 have hab:l.length=m.length:=by omega
 conv=>whnf
 refine⟨Nat,fun i=>⟨27,[(0,.v (.sl (l.map cAtt))),(1,.v (.sl (m.map cAtt))),(5,.v (.int .i64 (i:Nat)))],[],[]⟩,fun i=>i≤l.length∧∀j (h:j < i) (h1:j < l.length) (h2:j < m.length),attE l[j] m[j]=true,fun i=>l.length - i,⟨0,[],⟨Nat.zero_le _,fun j h=>by omega⟩,?_⟩,fun i ⟨hi,he⟩=>?_⟩
 ·(focus ((repeat' first|exact trivial|exact rfl|exact .inl rfl|exact .inr ⟨rfl,rfl⟩|refine And.intro ?_ ?_);done))
 conv=>whnf
 refine⟨rfl,cmp_split (fun h=>?_) (fun h=>?_)⟩
 ·rw[List.length_map] at h
  have hil:i < l.length:=by omega
  have him:i < m.length:=by omega
  conv=>whnf
  refine⟨none,by kernel_rfl,?_⟩;conv=>whnf
  refine st_idx hil rfl ?_
  conv=>whnf
  refine st_idx him rfl ?_
  conv=>whnf
  refine st_callB (sameAttr_fn l[i] m[i] (by have:=hv _ (List.getElem_mem hil);omega)) ⟨.inl rfl,.inl rfl,trivial⟩ rfl (fun h2=>?_) (fun h2=>?_)
  ·conv=>whnf
   refine⟨rfl,st_succ (by omega) ?_⟩
   conv=>whnf
   refine⟨i+1,[],⟨by omega,fun j hj h1 h3=>?_⟩,by dsimp only;omega,?_⟩
   ·by_cases e:j=i
    ·subst e;exact h2
    ·exact he j (by omega) h1 h3
   ·(focus ((repeat' first|exact trivial|exact rfl|exact .inl rfl|exact .inr ⟨rfl,rfl⟩|refine And.intro ?_ ?_);done))
  ·conv=>whnf
   exact⟨.inl (congrArg V.bool (atts_false hil him h2).symm),rfl⟩
 ·rw[List.length_map] at h
  conv=>whnf
  exact⟨.inl (congrArg V.bool (atts_all hab fun j h1 h2=>he j (by omega) h1 h2).symm),rfl⟩
set_option maxHeartbeats 8000000 in
theorem sameSearch_fn(a b:Sch)(hf:midF a.filt)(hn:a.names.length≤100000000):Fn Tryz.prog X 76 [.v (.agg (cSch a)),.v (.agg (cSch b))] (.v (.bool (schE a b))):=by
 have h1:=refSameF_fn (X:=X) a.filt b.filt hf
 have h2:=Fi.texts_fn (X:=X) a.names b.names (by omega)
 unfold schE
 refine fn_prog tabOk mixed Tryz.f76 Tryz.func76 (by kernel_rfl) (by kernel_rfl) ?_
 conv=>whnf
 refine⟨rfl,cmp_split (fun e1=>?_) (fun e1=>?_)⟩ <;> (conv=>whnf)
 rotate_left
 ·rw[decide_eq_false e1,Bool.false_and];(focus ((repeat' first|exact trivial|exact rfl|exact .inl rfl|exact .inr ⟨rfl,rfl⟩|refine And.intro ?_ ?_);done))
 rw[decide_eq_true e1,Bool.true_and]
 refine⟨rfl,cmp_split (fun e2=>?_) (fun e2=>?_)⟩ <;> (conv=>whnf)
 rotate_left
 ·rw[decide_eq_false e2,Bool.false_and];(focus ((repeat' first|exact trivial|exact rfl|exact .inl rfl|exact .inr ⟨rfl,rfl⟩|refine And.intro ?_ ?_);done))
 rw[decide_eq_true e2,Bool.true_and]
 refine⟨rfl,cmp_split (fun e3=>?_) (fun e3=>?_)⟩ <;> (conv=>whnf)
 rotate_left
 ·rw[decide_eq_false e3,Bool.false_and];(focus ((repeat' first|exact trivial|exact rfl|exact .inl rfl|exact .inr ⟨rfl,rfl⟩|refine And.intro ?_ ?_);done))
 rw[decide_eq_true e3,Bool.true_and]
 refine⟨rfl,cmp_split (fun e4=>?_) (fun e4=>?_)⟩ <;> (conv=>whnf)
 rotate_left
 ·rw[decide_eq_false e4,Bool.false_and];(focus ((repeat' first|exact trivial|exact rfl|exact .inl rfl|exact .inr ⟨rfl,rfl⟩|refine And.intro ?_ ?_);done))
 rw[decide_eq_true e4,Bool.true_and]
 refine cmp_split (fun e5=>?_) (fun e5=>?_) <;> (conv=>whnf)
 rotate_left
 ·rw[decide_eq_false e5,Bool.false_and];(focus ((repeat' first|exact trivial|exact rfl|exact .inl rfl|exact .inr ⟨rfl,rfl⟩|refine And.intro ?_ ?_);done))
 rw[decide_eq_true e5,Bool.true_and]
 cases hq:sameF a.filt b.filt
 ·rw[hq] at h1
  (refine st_call h1 ?_ rfl rfl ?_;(focus ((repeat' first|exact trivial|exact rfl|exact .inl rfl|exact .inr ⟨rfl,rfl⟩|refine And.intro ?_ ?_);done));conv=>whnf)
  (focus ((repeat' first|exact trivial|exact rfl|exact .inl rfl|exact .inr ⟨rfl,rfl⟩|refine And.intro ?_ ?_);done))
 ·rw[hq] at h1
  (refine st_call h1 ?_ rfl rfl ?_;(focus ((repeat' first|exact trivial|exact rfl|exact .inl rfl|exact .inr ⟨rfl,rfl⟩|refine And.intro ?_ ?_);done));conv=>whnf)
  (refine st_call h2 ?_ rfl rfl ?_;(focus ((repeat' first|exact trivial|exact rfl|exact .inl rfl|exact .inr ⟨rfl,rfl⟩|refine And.intro ?_ ?_);done));conv=>whnf)
  (focus ((repeat' first|exact trivial|exact rfl|exact .inl rfl|exact .inr ⟨rfl,rfl⟩|refine And.intro ?_ ?_);done))
end Go.Proofs.YtknelogmocedeaaGreatDoor.Ms
namespace Go.Proofs.YtknelogmocedeaaGreatDoor.Ms
open Go.RowKit Go.Shelf Go.Lib Tl Pr Pa
open Fl (bl bt' bl_bt bl_of size_bl Flt sameF sameFs sameF_iff sameFs_iff)
open Fi (one_arg encS cF cG cG_eq midF midFs midFs_mem CutF CutF_fn st_idxF)
set_option linter.unusedVariables false
variable {X : En}
structure midM(m:Msg):Prop where
 dn:m.dn.size≤1000000
 attrs:m.attrs.length≤100000000∧∀a∈m.attrs,midA a
 changes:m.changes.length≤100000000∧∀c∈m.changes,midA c.att
 controls:m.controls.length≤100000000
 filt:midF m.search.filt
 names:m.search.names.length≤100000000∧∀s∈m.search.names,s.size≤100000000
 move:m.move.rdn.size≤1000000∧m.move.sup.size≤1000000
 bind:m.bind.auth.size≤1000000∧m.bind.mech.size≤1000000
 result:midR m.result
 refs:m.refs.length≤100000000∧∀s∈m.refs,s.size≤1000000000
theorem mov_cells(a b:Mov):cMov a=cMov b↔a=b:=by
 obtain⟨a1,a2,a3,a4⟩:=a
 obtain⟨b1,b2,b3,b4⟩:=b
 simp[cMov]
theorem bnd_cells(a b:Bnd):cBnd a=cBnd b↔a=b:=by
 obtain⟨a1,a2,a3,a4⟩:=a
 obtain⟨b1,b2,b3,b4⟩:=b
 simp[cBnd]
theorem xt_cells(a b:Xt):cXt a=cXt b↔a=b:=by
 obtain⟨a1,a2,a3⟩:=a
 obtain⟨b1,b2,b3⟩:=b
 simp[cXt]
theorem ctl_cells(a b:Ctl):cCtl a=cCtl b↔a=b:=by
 obtain⟨a1,a2,a3,a4⟩:=a
 obtain⟨b1,b2,b3,b4⟩:=b
 simp[cCtl]
theorem bool_of{A:Bool}{p:Prop}(h:A=true↔p):(p→A=true)∧(¬p→A=false):=⟨h.2,fun hn=>Bool.eq_false_iff.2 fun e=>hn (h.1 e)⟩
def chgE(a b:Chg):Bool:=decide (a.kind=b.kind)&&attE a.att b.att
theorem chgE_iff(a b:Chg):chgE a b=true↔a=b:=by
 unfold chgE
 rw[Bool.and_eq_true,attE_iff,decide_eq_true_eq]
 obtain⟨x1,x2⟩:=a
 obtain⟨y1,y2⟩:=b
 simp
theorem chgs_all{l m:List Chg}(hab:l.length=m.length)(h:∀j (h1:j < l.length) (h2:j < m.length),chgE l[j] m[j]=true):chgsE l m=true:=
 (chgsE_iff l m).2 (List.ext_getElem hab fun j h1 h2=>(chgE_iff _ _).1 (h j h1 h2))
theorem ctls_all{l m:List Ctl}(hab:l.length=m.length)(h:∀j (h1:j < l.length) (h2:j < m.length),l[j]=m[j]):ctlsE l m=true:=
 (ctlsE_iff l m).2 (List.ext_getElem hab fun j h1 h2=>h j h1 h2)
theorem chgs_false{l m:List Chg}{i:Nat}(h:i < l.length)(h':i < m.length)(hf:l[i]≠m[i]):chgsE l m=false:=Bool.eq_false_iff.2 fun e=>by
 have:=(chgsE_iff l m).1 e
 subst this
 exact hf rfl
theorem ctls_false{l m:List Ctl}{i:Nat}(h:i < l.length)(h':i < m.length)(hf:l[i]≠m[i]):ctlsE l m=false:=Bool.eq_false_iff.2 fun e=>by
 have:=(ctlsE_iff l m).1 e
 subst this
 exact hf rfl
set_option maxHeartbeats 16000000 in
theorem same_fn(a b:Msg)(hm:midM a):Fn Tryz.prog X 38 [.v (.agg (cMsg a)),.v (.agg (cMsg b))] (.v (.bool (msgE a b))):=by
 have hA:=sameAttrs_fn (X:=X) a.attrs b.attrs hm.attrs.1 (fun x hx=>(hm.attrs.2 x hx).2)
 have hS:=sameSearch_fn (X:=X) a.search b.search hm.filt hm.names.1
 have hR:=sameResult_fn (X:=X) a.result b.result (by have:=hm.result.refs.1;omega)
 rw[show sameR a.result b.result=resE a.result b.result from rfl] at hR
 have hT:=Fi.texts_fn (X:=X) a.refs b.refs (by have:=hm.refs.1;omega)
 unfold msgE
 refine fn_prog tabOk mixed Tryz.f38 Tryz.func38 (by kernel_rfl) (by kernel_rfl) ?_
 conv=>whnf
 refine⟨rfl,cmp_split (fun e=>?_) (fun e=>?_)⟩ <;> (conv=>whnf)
 ·rw[decide_eq_false e,Bool.false_and];(focus ((repeat' first|exact trivial|exact rfl|exact .inl rfl|exact .inr ⟨rfl,rfl⟩|refine And.intro ?_ ?_);done))
 rw[decide_eq_true (Decidable.not_not.1 e),Bool.true_and]
 refine⟨rfl,cmp_split (fun e=>?_) (fun e=>?_)⟩ <;> (conv=>whnf)
 ·rw[decide_eq_false e,Bool.false_and];(focus ((repeat' first|exact trivial|exact rfl|exact .inl rfl|exact .inr ⟨rfl,rfl⟩|refine And.intro ?_ ?_);done))
 rw[decide_eq_true (Decidable.not_not.1 e),Bool.true_and]
 refine cmp_split (fun e=>?_) (fun e=>?_) <;> (conv=>whnf)
 ·rw[decide_eq_false e,Bool.false_and];(focus ((repeat' first|exact trivial|exact rfl|exact .inl rfl|exact .inr ⟨rfl,rfl⟩|refine And.intro ?_ ?_);done))
 rw[decide_eq_true (Decidable.not_not.1 e),Bool.true_and]
 refine cmp_split (fun e=>?_) (fun e=>?_) <;> (conv=>whnf)
 rotate_left
 ·rw[(bool_of (movE_iff a.move b.move)).2 (fun h=>e (congrArg cMov h)),Bool.false_and];(focus ((repeat' first|exact trivial|exact rfl|exact .inl rfl|exact .inr ⟨rfl,rfl⟩|refine And.intro ?_ ?_);done))
 rw[(bool_of (movE_iff a.move b.move)).1 ((mov_cells _ _).1 e),Bool.true_and]
 refine cmp_split (fun e=>?_) (fun e=>?_) <;> (conv=>whnf)
 rotate_left
 ·rw[(bool_of (bndE_iff a.bind b.bind)).2 (fun h=>e (congrArg cBnd h)),Bool.false_and];(focus ((repeat' first|exact trivial|exact rfl|exact .inl rfl|exact .inr ⟨rfl,rfl⟩|refine And.intro ?_ ?_);done))
 rw[(bool_of (bndE_iff a.bind b.bind)).1 ((bnd_cells _ _).1 e),Bool.true_and]
 refine cmp_split (fun e=>?_) (fun e=>?_) <;> (conv=>whnf)
 rotate_left
 ·rw[(bool_of (xtE_iff a.ext b.ext)).2 (fun h=>e (congrArg cXt h)),Bool.false_and];(focus ((repeat' first|exact trivial|exact rfl|exact .inl rfl|exact .inr ⟨rfl,rfl⟩|refine And.intro ?_ ?_);done))
 rw[(bool_of (xtE_iff a.ext b.ext)).1 ((xt_cells _ _).1 e),Bool.true_and]
 refine⟨rfl,cmp_split (fun e=>?_) (fun e=>?_)⟩ <;> (conv=>whnf)
 ·rw[decide_eq_false e,Bool.false_and];(focus ((repeat' first|exact trivial|exact rfl|exact .inl rfl|exact .inr ⟨rfl,rfl⟩|refine And.intro ?_ ?_);done))
 rw[decide_eq_true (Decidable.not_not.1 e),Bool.true_and]
 refine⟨rfl,cmp_split (fun e=>?_) (fun e=>?_)⟩ <;> rw[List.length_map,List.length_map] at e <;> (conv=>whnf)
 ·rw[(bool_of (chgsE_iff a.changes b.changes)).2 (fun h=>e (by rw[h])),Bool.false_and];(focus ((repeat' first|exact trivial|exact rfl|exact .inl rfl|exact .inr ⟨rfl,rfl⟩|refine And.intro ?_ ?_);done))
 have l1:a.changes.length=b.changes.length:=by omega
 clear e
 refine⟨rfl,cmp_split (fun e=>?_) (fun e=>?_)⟩ <;> rw[List.length_map,List.length_map] at e <;> (conv=>whnf)
 ·rw[(bool_of (ctlsE_iff a.controls b.controls)).2 (fun h=>e (by rw[h])),Bool.false_and,Bool.and_false];(focus ((repeat' first|exact trivial|exact rfl|exact .inl rfl|exact .inr ⟨rfl,rfl⟩|refine And.intro ?_ ?_);done))
 have l2:a.controls.length=b.controls.length:=by omega
 clear e
 refine⟨Nat,fun i=>⟨150,[(2,.ptr 2 0),(3,.ptr 3 0),(5,.v (.int .i64 (i:Nat)))],[(2,bMsg a),(3,bMsg b)],[]⟩,fun i=>i≤a.changes.length∧∀j (h:j < i) (h1:j < a.changes.length) (h2:j < b.changes.length),chgE a.changes[j] b.changes[j]=true,fun i=>a.changes.length - i,⟨0,[],⟨Nat.zero_le _,fun j h=>by omega⟩,?_⟩,fun i ⟨hi,he⟩=>?_⟩
 ·(focus ((repeat' first|exact trivial|exact rfl|exact .inl rfl|exact .inr ⟨rfl,rfl⟩|refine And.intro ?_ ?_);done))
 conv=>whnf
 refine⟨rfl,cmp_split (fun h=>?_) (fun h=>?_)⟩ <;> rw[List.length_map] at h
 ·have hil:i < a.changes.length:=by omega
  have him:i < b.changes.length:=by omega
  conv=>whnf
  refine⟨none,by kernel_rfl,?_⟩;conv=>whnf
  refine st_idx hil rfl ?_
  conv=>whnf
  refine st_idx him rfl ?_
  conv=>whnf
  refine⟨rfl,cmp_split (fun e=>?_) (fun e=>?_)⟩ <;> (conv=>whnf)
  ·rw[chgs_false hil him (fun h=>e (by rw[h])),Bool.false_and];(focus ((repeat' first|exact trivial|exact rfl|exact .inl rfl|exact .inr ⟨rfl,rfl⟩|refine And.intro ?_ ?_);done))
  refine st_idx hil rfl ?_
  conv=>whnf
  refine st_idx him rfl ?_
  conv=>whnf
  refine st_callB (sameAttr_fn a.changes[i].att b.changes[i].att (by have:=(hm.changes.2 _ (List.getElem_mem hil)).2;omega)) ⟨.inl rfl,.inl rfl,trivial⟩ rfl (fun h2=>?_) (fun h2=>?_)
  ·conv=>whnf
   refine⟨rfl,st_succ (by have:=hm.changes.1;omega) ?_⟩
   conv=>whnf
   refine⟨i+1,[],⟨by omega,fun j hj h1 h3=>?_⟩,by dsimp only;omega,?_⟩
   ·by_cases e':j=i
    ·subst e'
     unfold chgE
     rw[decide_eq_true (Decidable.not_not.1 e),Bool.true_and]
     exact h2
    ·exact he j (by omega) h1 h3
   ·(focus ((repeat' first|exact trivial|exact rfl|exact .inl rfl|exact .inr ⟨rfl,rfl⟩|refine And.intro ?_ ?_);done))
  ·conv=>whnf
   rw[chgs_false hil him (fun h=>by rw[h,sameA_eq,(attE_iff _ _).2 rfl] at h2;cases h2),Bool.false_and]
   (focus ((repeat' first|exact trivial|exact rfl|exact .inl rfl|exact .inr ⟨rfl,rfl⟩|refine And.intro ?_ ?_);done))
 ·rw [chgs_all l1 fun j h1 h2 => he j (by omega) h1 h2, Bool.true_and]
  conv=>whnf
  refine⟨Nat,fun i=>⟨150,[(2,.ptr 2 0),(3,.ptr 3 0),(6,.v (.int .i64 (i:Nat)))],[(2,bMsg a),(3,bMsg b)],[]⟩,fun i=>i≤a.controls.length∧∀j (h:j < i) (h1:j < a.controls.length) (h2:j < b.controls.length),a.controls[j]=b.controls[j],fun i=>a.controls.length - i,⟨0,[],⟨Nat.zero_le _,fun j h=>by omega⟩,?_⟩,fun i ⟨hi,he⟩=>?_⟩
  ·(focus ((repeat' first|exact trivial|exact rfl|exact .inl rfl|exact .inr ⟨rfl,rfl⟩|refine And.intro ?_ ?_);done))
  conv=>whnf
  refine⟨rfl,cmp_split (fun h=>?_) (fun h=>?_)⟩ <;> rw[List.length_map] at h
  ·have hil:i < a.controls.length:=by omega
   have him:i < b.controls.length:=by omega
   conv=>whnf
   refine⟨none,by kernel_rfl,?_⟩;conv=>whnf
   refine st_idx hil rfl ?_
   conv=>whnf
   refine st_idx him rfl ?_
   conv=>whnf
   refine cmp_split (fun e=>?_) (fun e=>?_) <;> (conv=>whnf)
   ·refine⟨rfl,st_succ (by have:=hm.controls;omega) ?_⟩
    conv=>whnf
    refine⟨i+1,[],⟨by omega,fun j hj h1 h3=>?_⟩,by dsimp only;omega,?_⟩
    ·by_cases e':j=i
     ·subst e';exact(ctl_cells _ _).1 e
     ·exact he j (by omega) h1 h3
    ·(focus ((repeat' first|exact trivial|exact rfl|exact .inl rfl|exact .inr ⟨rfl,rfl⟩|refine And.intro ?_ ?_);done))
   ·rw[ctls_false hil him (fun h=>e (congrArg cCtl h)),Bool.false_and]
    (focus ((repeat' first|exact trivial|exact rfl|exact .inl rfl|exact .inr ⟨rfl,rfl⟩|refine And.intro ?_ ?_);done))
  ·rw[ctls_all l2 fun j h1 h2=>he j (by omega) h1 h2,Bool.true_and]
   conv=>whnf
   cases q1:attsE a.attrs b.attrs <;> rw[q1] at hA
   ·(refine st_call hA ?_ rfl rfl ?_;(focus ((repeat' first|exact trivial|exact rfl|exact .inl rfl|exact .inr ⟨rfl,rfl⟩|refine And.intro ?_ ?_);done));conv=>whnf)
    (focus ((repeat' first|exact trivial|exact rfl|exact .inl rfl|exact .inr ⟨rfl,rfl⟩|refine And.intro ?_ ?_);done))
   (refine st_call hA ?_ rfl rfl ?_;(focus ((repeat' first|exact trivial|exact rfl|exact .inl rfl|exact .inr ⟨rfl,rfl⟩|refine And.intro ?_ ?_);done));conv=>whnf)
   cases q2:schE a.search b.search <;> rw[q2] at hS
   ·(refine st_call hS ?_ rfl rfl ?_;(focus ((repeat' first|exact trivial|exact rfl|exact .inl rfl|exact .inr ⟨rfl,rfl⟩|refine And.intro ?_ ?_);done));conv=>whnf)
    (focus ((repeat' first|exact trivial|exact rfl|exact .inl rfl|exact .inr ⟨rfl,rfl⟩|refine And.intro ?_ ?_);done))
   (refine st_call hS ?_ rfl rfl ?_;(focus ((repeat' first|exact trivial|exact rfl|exact .inl rfl|exact .inr ⟨rfl,rfl⟩|refine And.intro ?_ ?_);done));conv=>whnf)
   cases q3:resE a.result b.result <;> rw[q3] at hR
   ·(refine st_call hR ?_ rfl rfl ?_;(focus ((repeat' first|exact trivial|exact rfl|exact .inl rfl|exact .inr ⟨rfl,rfl⟩|refine And.intro ?_ ?_);done));conv=>whnf)
    (focus ((repeat' first|exact trivial|exact rfl|exact .inl rfl|exact .inr ⟨rfl,rfl⟩|refine And.intro ?_ ?_);done))
   (refine st_call hR ?_ rfl rfl ?_;(focus ((repeat' first|exact trivial|exact rfl|exact .inl rfl|exact .inr ⟨rfl,rfl⟩|refine And.intro ?_ ?_);done));conv=>whnf)
   (refine st_call hT ?_ rfl rfl ?_;(focus ((repeat' first|exact trivial|exact rfl|exact .inl rfl|exact .inr ⟨rfl,rfl⟩|refine And.intro ?_ ?_);done));conv=>whnf)
   (focus ((repeat' first|exact trivial|exact rfl|exact .inl rfl|exact .inr ⟨rfl,rfl⟩|refine And.intro ?_ ?_);done))
theorem CutM_mid(m:Msg):midM (CutM m):=by
 have c2:∀s:ByteArray,(cutB 201 s).size≤1000000:=fun s=>by have:=cutB_size 201 s;omega
 have t8:∀{α β:Type} (f:α→β) (l:List α),((l.take 8).map f).length≤100000000:=fun f l=>by rw[List.length_map,List.length_take];omega
 have hs:∀l:List ByteArray,(cutS l).length≤100000000∧∀s∈cutS l,s.size≤100000000:=fun l=>⟨by have:=cutS_len l;omega,fun s hs=>by have:=cutS_size l s hs;omega⟩
 refine⟨c2 _,⟨t8 _ _,fun a ha=>?_⟩,⟨t8 _ _,fun c hc=>?_⟩,t8 _ _,Fi.Cut_mid _,hs _,⟨c2 _,c2 _⟩,⟨c2 _,c2 _⟩,CutR_mid _,⟨(hs _).1,fun s h=>by have:=(hs _).2 s h;omega⟩⟩
 ·obtain⟨x,_,rfl⟩:=List.mem_map.1 ha
  exact CutA_mid x
 ·obtain⟨x,_,rfl⟩:=List.mem_map.1 hc
  exact CutA_mid x.att
end Go.Proofs.YtknelogmocedeaaGreatDoor.Ms
namespace Go.Proofs.YtknelogmocedeaaGreatDoor
open Go.RowKit
set_option linter.unusedVariables false
variable {P : Program} {X : En} {tb : Tab}
inductive Cuts (P:Program) (X:En) (tb:Tab) (Q:Exit→St→Prop):Code→St→Prop
 | base {c:Code} {st:St} (h:aCode P X tb c Q st):Cuts P X tb Q c st
 | seq {x y:Code} {st:St} (σ:List (Nat×Option Nat)) (st1:St) (h:aCode P X tb x (seqQ (fun st'=>Wk σ st' st1) Q) st) (h2:Cuts P X tb Q y st1):Cuts P X tb Q (.seq x y) st
theorem cuts_wp(hT:TabOk P tb)(hm:P.follows .mixedOrders=true){X0:En}{Q:Exit→St→Prop}{c:Code}{st:St}(h:Cuts P X0 tb Q c st):∀(X:En) (hX:X.Le X0) (base N:Nat) (S:Nat→Prop) (F:Fence) (n:Nat) (hF:Open F) (Wr:Nat→Prop) (hW:∀t∈codeW c,Wr t) (a:Act) (w:World) (g:Gh),(∀ch st,¬Q (.panic ch) st)→(∀l,F.round=some l→∃r,w.heap[l]? =some (.loop r))→Hd P X base S st a w g→st.n=N→c.wpIn F n P (AftR P X base S N Wr a w g Q) a w:=by
 induction h with
 | base h=>intro X hX base N S F n hF Wr hW a w g hp hl hd hn;exact code_wp hT hm _ X hX base N S F n hF Wr hW Q _ a w g hp hl h hd hn
 | seq σ st1 h h2 ih=>
  intro X hX base N S F n hF Wr hW a w g hp hl hd hn
  refine wpIn_seq (wpIn_mono (code_wp hT hm _ X hX base N S F n hF Wr (fun t ht=>hW t (List.mem_append_left _ ht)) (seqQ (fun st'=>Wk σ st' st1) Q) _ a w g (fun ch st' hh=>hp ch st' hh) hl h hd hn) ?_)
  rintro e a1 w1 ⟨st',g',q1,q2,q3,q4,q5,q6⟩
  cases e with
  | normal=>
   obtain⟨i1,i2⟩:=q2.wk (N:=N) q1
   exact wpIn_mono (ih X hX base N S F n hF Wr (fun t ht=>hW t (List.mem_append_right _ ht)) a1 w1 _ hp (fun l hl'=>by obtain⟨r,hr⟩:=hl l hl';exact⟨r,q3.obj hr rfl⟩) i1 (q1.1.trans q4)) fun e a2 w2 k=>k.next (q3.trans i2) q5 q6
  | exit id=>exact⟨st',g',q1,q2,q3,q4,q5,q6⟩
  | goto l=>exact⟨st',g',q1,q2,q3,q4,q5,q6⟩
  | ret=>exact⟨st',g',q1,q2,q3,q4,q5,q6⟩
  | panic ch=>exact⟨st',g',q1,q2,q3,q4,q5,q6⟩
  | outgrown=>exact⟨st',g',q1,q2,q3,q4,q5,q6⟩
theorem fn_cut_of(hT:TabOk P tb)(hm:P.follows .mixedOrders=true){f:FuncId}{fn:Func}{c:Code}{args:List T}{r:T}(hf:P.funcs[f]? =some fn)(hb:fn.body=some c)
  (hen:∀(vs:Array Value) (w:World),(callFunc f vs).run P w=.ok (.enter f vs) w) (hn:Nat.ble args.length fn.ntmps=true)
  (h:Cuts P X tb (endQ tb fn.results.toList r) c (St.head fn.ntmps args)):Fn P X f args r:=by
 refine⟨hen,fun w L vs hE hL hargs=>?_⟩
 have hn':=Nat.le_of_ble_eq_true hn
 have hvl:=hargs.length
 have hd:Hd P X w.heap.size (fun _=>False) (St.head fn.ntmps args) {tmps:=vs.toArray++Array.replicate (fn.ntmps - vs.toArray.size) undef,defers:=[]} w ⟨L,fun _=>(0,0),fun _=>undef⟩:=by
  refine⟨by simp[St.head];omega,fun t=>?_,⟨fun hi=>(by cases hi),fun hi=>(by cases hi),fun hi=>(by cases hi),fun hi=>(by cases hi),fun hi=>(by cases hi),fun hi=>(by cases hi),fun hi=>(by cases hi),fun hi=>(by cases hi),fun hi=>(by cases hi),hL,fun hi=>(by cases hi),fun hi=>(by cases hi)⟩,hE,Nat.le_refl _⟩
  have:=argsE_get 0 t hargs
  rw[if_neg (by omega),Nat.sub_zero] at this
  refine Eq.mpr ?_ this
  congr 1
  show((vs.toArray++Array.replicate (fn.ntmps - vs.toArray.size) undef).getD t undef)=_
  rw[Array.getD_eq_getD_getElem?,List.getD_eq_getElem?_getD]
  by_cases ht:t < vs.length
  ·rw[Array.getElem?_append_left (by simpa using ht)];simp
  ·rw[Array.getElem?_append_right (by simpa using ht),List.getElem?_eq_none (by omega)]
   by_cases h2:t - vs.toArray.size < fn.ntmps - vs.toArray.size
   ·rw[Array.getElem?_replicate,if_pos h2];rfl
   ·rw[Array.getElem?_replicate,if_neg h2]
 have hw:=cuts_wp hT hm h X ⟨fun _ h=>h,fun _ h=>h⟩ w.heap.size fn.ntmps (fun _=>False) Fence.wide 1 (.inl rfl) (fun _=>True) (fun _ _=>trivial) _ w _ (fun ch st h=>h.elim) (fun l hl=>by cases hl) hd rfl
 refine callsIn_wide.1 (callsIn_of_wp_marks (n:=1) hf hb trivial (wpIn_mono hw ?_))
 rintro e a' w' ⟨st',g',q1,q2,q3,q4,q5,ms,q6,q7⟩
 rw[List.append_nil] at q6
 have fin:(match resTs tb st' fn.results.toList with | some ts=>resOk ts r | none=>False)→LeavesInM Fence.wide 1 P fn a'.tmps (fun e w'=>∃v L',e=.returned v∧Below w.heap.size w w'∧Same L w L' w'∧(∀{b o},L' b o→L b o∨w.heap.size≤b)∧(∀{b o},L' b o→∃u,w'.cell? ⟨b,o,none⟩=some u)∧RepT P w' ⟨L',fun _=>(0,0),fun _=>undef⟩ r v) a'.defers .returning w':=fun hr=>by
  split at hr
  ·rename_i ts hts
   rw[q6]
   refine leaves_marks hT hE ms st' a' w' g' q2 q7 hts hr.i.1 fun v w2 hu hd2 hrv=>?_
   have hp:=hr.i.2
   have hu1:=q3.upd
   refine⟨v,g'.L,rfl,⟨hu.os.trans hu1.os,hu.tape.trans hu1.tape,hu.output.trans hu1.output,Nat.le_trans hu1.size hu.size,fun k hk=>?_⟩,⟨fun b o u h1 h2=>?_,fun k o h1 h2=>(hu.block k (Array.getElem?_eq_some_iff.1 (q3.same.m k o h1 h2)).1 (by have:=(Array.getElem?_eq_some_iff.1 h1).1;omega)).trans (q3.same.m k o h1 h2)⟩,fun {b o} h=>(q3.newL h).imp id And.left,hd2.mm.Lc,RepT.pure (g:=g') (g':=⟨g'.L,fun _=>(0,0),fun _=>undef⟩) (w':=w2) hp (Same.refl _ _) hrv⟩
   ·rw[hu.block k (Nat.lt_of_lt_of_le hk hu1.size) (by omega)]
    exact hu1.block k hk (by rintro(h | h);exact h;omega)
   ·obtain⟨h3,h4⟩:=q3.same.c b o u h1 h2
    have hbl:=World.block_lt_of_cell? w _ h2
    exact⟨h3,hu.cell h4 (by dsimp only at*;omega)⟩
  ·exact hr.elim
 cases e with
 | normal=>exact fin q1
 | ret=>exact fin q1
 | exit id=>exact q1.elim
 | goto l=>exact q1.elim
 | panic ch=>exact q1.elim
 | outgrown=>exact q1.elim
theorem fn_cut(hT:TabOk P tb)(hm:P.follows .mixedOrders=true){f:FuncId}(fn:Func){args:List T}{r:T}(hf:P.funcs[f]? =some fn)(hb:(fn.name== "runtime.NumGoroutine" ||fn.body.isNone)=false)(hn:Nat.ble args.length fn.ntmps=true)
  (h:Cuts P X tb (endQ tb fn.results.toList r) (bodyOf fn) (St.head fn.ntmps args)):Fn P X f args r:=by
 cases hc:fn.body with
 | none=>rw[hc] at hb;simp at hb
 | some c=>
  refine fn_cut_of hT hm hf hc (enter_of (by rw[hf,Option.map_some,hb])) hn ?_
  unfold bodyOf at h
  rw[hc] at h
  exact h
theorem fnM_cut_of(hT:TabOk P tb)(hm:P.follows .mixedOrders=true){f:FuncId}{fn:Func}{c:Code}{args:List T}{css css':List (List T)}{r:T}(hf:P.funcs[f]? =some fn)(hb:fn.body=some c)
  (hen:∀(vs:Array Value) (w:World),(callFunc f vs).run P w=.ok (.enter f vs) w) (hn:Nat.ble args.length fn.ntmps=true) (hk:T.noKs args=true) (hp:T.noKss css=true) (hp':T.noKss css'=true) (hlen:css'.map List.length=css.map List.length)
  (h:Cuts P X tb (endQM tb fn.results.toList r fn.ntmps css') c (St.headM fn.ntmps args css)):FnM P X f css args r css':=by
 refine⟨hen,hlen,fun w g vs hE hL hmb hargs=>?_⟩
 have hd:=headM (n:=fn.ntmps) hn hk hp hE hL hmb hargs
 have hw:=cuts_wp hT hm h X ⟨fun _ h=>h,fun _ h=>h⟩ w.heap.size fn.ntmps _ Fence.wide 1 (.inl rfl) (fun _=>True) (fun _ _=>trivial) _ w _ (fun ch st h=>h.elim) (fun l hl=>by cases hl) hd rfl
 refine callsIn_wide.1 (callsIn_of_wp_marks (n:=1) hf hb trivial (wpIn_mono hw ?_))
 rintro e a' w' ⟨st',g',q1,q2,q3,q4,q5,ms,q6,q7⟩
 rw[List.append_nil] at q6
 have fin:(match resTs tb st' fn.results.toList with | some ts=>resOk ts r∧bxEnd st' fn.ntmps (shiftTss fn.ntmps css') | none=>False)→LeavesInM Fence.wide 1 P fn a'.tmps (fun e w'=>∃v L',e=.returned v∧Upd (fun b=>∃j,j < css.length∧b=(g.ρ j).1) w w'∧Same g.L w L' w'∧(∀{b o},L' b o→g.L b o∨w.heap.size≤b)∧(∀{b o},L' b o→∃u,w'.cell? ⟨b,o,none⟩=some u)∧MemB P X w' {g with L:=L'} css'∧(∀{k:Nat} {o:Obj},w.heap[k]? =some o→o.isCells=false→w'.heap[k]? =some o)∧RepT P w' {g with L:=L'} r v) a'.defers .returning w':=fun hr=>by
  split at hr
  ·rename_i ts hts
   obtain⟨hr,hbe⟩:=hr
   rw[q6]
   refine leaves_marks hT hE ms st' a' w' g' q2 q7 hts hr.i.1 fun v w2 hu hd2 hrv=>?_
   have hpv:=hr.i.2
   obtain⟨e1,e2,e3,e4,e5,e6⟩:=endM hp' hlen q3 hu hd2 hbe
   exact⟨v,g'.L,rfl,e1,e2,e3,e4,e5,e6,RepT.pure (g:=g') (g':={g with L:=g'.L}) (w':=w2) hpv (Same.refl _ _) hrv⟩
  ·exact hr.elim
 cases e with
 | normal=>exact fin q1
 | ret=>exact fin q1
 | exit id=>exact q1.elim
 | goto l=>exact q1.elim
 | panic ch=>exact q1.elim
 | outgrown=>exact q1.elim
theorem fnM_cut(hT:TabOk P tb)(hm:P.follows .mixedOrders=true){f:FuncId}(fn:Func){args:List T}{css css':List (List T)}{r:T}(hf:P.funcs[f]? =some fn)(hb:(fn.name== "runtime.NumGoroutine" ||fn.body.isNone)=false)(hn:Nat.ble args.length fn.ntmps=true)(hk:T.noKs args=true)(hp:T.noKss css=true)(hp':T.noKss css'=true)(hlen:css'.map List.length=css.map List.length)
  (h:Cuts P X tb (endQM tb fn.results.toList r fn.ntmps css') (bodyOf fn) (St.headM fn.ntmps args css)):FnM P X f css args r css':=by
 cases hc:fn.body with
 | none=>rw[hc] at hb;simp at hb
 | some c=>
  refine fnM_cut_of hT hm hf hc (enter_of (by rw[hf,Option.map_some,hb])) hn hk hp hp' hlen ?_
  unfold bodyOf at h
  rw[hc] at h
  exact h
end Go.Proofs.YtknelogmocedeaaGreatDoor
