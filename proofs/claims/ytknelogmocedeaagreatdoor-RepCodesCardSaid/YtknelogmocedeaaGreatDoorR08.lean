/- Several texts, one behind the other. The walk without memory is right: a region whose order is drawn may be walked in one order, if what is taken ahead of others only reads what these leave alone. Whatever program. A range over a function, in line: the loop's statement by the walk of the function that is ranged over, a call of yield by the walk of the body. Laws of whatever program; conditions: the loop's record lies where it was laid. -/
import Derived.Test.YtknelogmocedeaaGreatDoorR07
import Derived.OrdersIn
import Derived.RangeFuncNested
import Derived.RangeFuncBound
import Derived.RangeFuncCalls
import Derived.RangeFuncLeaves
import Derived.Shelf.Abstract
import Derived.WalkKit
import Derived.OwnWalkIn
import Derived.TacticsInMore
import Derived.LoopNIn
import Derived.LoopIn
import Derived.Below
namespace Go.Proofs.YtknelogmocedeaaGreatDoor
open Go.RowKit
set_option linter.unusedVariables false
variable {P : Program} {X : En} {base N : Nat} {S : Nat → Prop} {tb : Tab} {F : Fence} {n : Nat} {ops : Array Oper} {Q : Exit → Act → World → Prop}
theorem semOp_ranQ(hT:TabOk P tb){C:Con}(hC:ConOk X C){o:Oper}{a:Act}{w:World}{g:Gh}{st:St}{K:T→St→Prop}(hq:quietOp o.op=true)(hd:Hd P X base S st a w g)(hs:semOp tb C o st K):RanQ P st o a w g K:=by
 obtain⟨op,ho⟩:∃op,o.op=op:=⟨_,rfl⟩
 cases op with
 | move x=>exact ran_move (.inl ho) hd hs
 | assign x=>exact ran_move (.inr ho) hd hs
 | pick c x y=>exact ran_pick ho hd hs
 | build t ps=>exact ran_build hT ho hd hs
 | load t x=>exact ran_load hT hC ho hd hs
 | fieldAddr s x f=>exact ran_fieldAddr hT ho hd hs
 | field s x f=>exact ran_field hT ho hd hs
 | indexAddr t x ix=>exact ran_indexAddr hT ho hd hs
 | index t x ix=>exact ran_index hT ho hd hs
 | slice t x lo hi mx=>exact ran_slice hT ho hd hs
 | extract x i=>exact ran_extract ho hd hs
 | binOp op t x y t'=>exact ran_binOp hT ho hd hs
 | unOp op t x=>exact ran_unOp ho hd hs
 | convert s t x=>exact ran_convert hT (by rw[ho] at hq;unfold quietOp at hq;simpa using hq) ho hd hs
 | makeInterface t x=>exact ran_makeInterface hT ho hd hs
 | makeFunc fn first captured=>exact ran_makeFunc ho hd hs
 | nilCheck x=>exact ran_nilCheck ho hd hs
 | call c=>
  rw[ho] at hq
  unfold quietOp at hq
  dsimp only at hq
  split at hq
  ·rename_i hc;exact ran_len hT ho hc hd hs
  ·rename_i hc;exact ran_min ho hc hd hs
  ·rename_i hc;exact ran_max ho hc hd hs
  ·cases hq
 | _=>rw[ho] at hq;cases hq
def AnyK(F:Fence)(n:Nat)(P:Program)(ops:Array Oper)(Q:Exit→Act→World→Prop):Nat→Array Bool→Gh→List (Nat×Option Nat)→Act→World→Prop
 | 0,listed,_,_,a,w=>Region.ready .any ops listed=[]∧Q .normal a w
 | fuel+1,listed,g,lv,a,w=>(Region.ready .any ops listed=[]→Q .normal a w)∧
  ∀i∈Region.ready .any ops listed,wpOpIn F n P ops Q i (fun a' w'=>∃g' lv',(∀o,ops[i]? =some o→TameB (bad o a) w g lv w' g' lv')∧Same g.L w g'.L w'∧AnyK F n P ops Q fuel (listed.setIfInBounds i true) g' lv' a' w') a w
theorem AnyK.any:∀(fuel:Nat) (listed:Array Bool) (g:Gh) (lv:List (Nat×Option Nat)) (a:Act) (w:World),AnyK F n P ops Q fuel listed g lv a w→wpAnyIn F n P .any ops Q fuel listed a w
 | 0,_,_,_,_,_,h=>h
 | fuel+1,_,_,_,_,_,h=>⟨h.1,fun i hi=>wpOpIn_mono (fun a' w' ⟨g',lv',_,_,h'⟩=>AnyK.any fuel _ g' lv' a' w' h') (h.2 i hi)⟩
theorem wpOpIn_beside(hF:Open F){j:Nat}{oi oj:Oper}{v:Value}(hj:ops[j]? =some oj)(hap:oi.apart ops oj=true)(hsj:∀cs b,oj.op≠ .select cs b)(hdj:∀c,oj.op≠ .defer c)
  (hQ:∀c a w,Q (.panic c) (a.put oi.dst v) w→Q (.panic c) a w) {K:Act→World→Prop} {a:Act} {w:World} (h:wpOpIn F n P ops Q j K (a.put oi.dst v) w):
  wpOpIn F n P ops Q j (fun a' w'=>(∃u,a'.tmps=(a.put oj.dst u).tmps)∧K (a'.put oi.dst v) w') a w:=by
 obtain⟨h1,h2,h3⟩:=Oper.apart_spec hap
 unfold wpOpIn at*
 simp only[hj] at*
 rw[wanted_put oj a oi.dst v h1] at h
 split
 ·rename_i hw
  simp only[hw,if_true] at h
  refine⟨fun f _=>hF.fn f,?_⟩
  have h:=h.2
  rw[Oper.semAt_plain F _ _ hdj] at h ⊢
  rw[execOp_put oj hsj a oi.dst v h1] at h
  generalize (execOp a.eval oj).run P w=r at*
  cases r with
  | ok x w'=>
   cases x <;> simp only[Oper.uponIn] at h ⊢
   case value u=>exact⟨⟨u,rfl⟩,by rw[←Act.put_comm a v u h2];exact h⟩
   case skip=>exact⟨⟨_,rfl⟩,by rw[←Act.put_comm a v undef h2];exact h⟩
   case defer d=>
    refine⟨⟨undef,by cases oj.dst <;> rfl⟩,?_⟩
    rw[←Act.put_comm _ v undef h2,←Act.put_defers]
    exact h
   case enter f args=>
    refine⟨h.1,CallsIn.mono h.2 fun e w'' he=>?_⟩
    cases e with
    | returned u=>exact⟨⟨u,rfl⟩,by rw[←Act.put_comm a v u h2];exact he⟩
    | panicked c=>exact hQ _ _ _ he
    | outgrown=>exact he
   case row row args=>exact⟨h.1,RowsIn.mono h.2 fun u w'' he=>⟨⟨u,rfl⟩,by rw[←Act.put_comm a v u h2];exact he⟩⟩
   case round l f tmps assign body=>
    refine⟨h.1,RoundIn.mono h.2 fun e w'' he=>?_⟩
    cases e with
    | returned u=>exact⟨⟨u,rfl⟩,by rw[←Act.put_comm a v u h2];exact he⟩
    | panicked c=>exact hQ _ _ _ he
    | outgrown=>exact he
  | halt x w'=>
   cases x <;> simp only[Oper.uponIn] at h ⊢
   case panic u=>exact hQ _ _ _ h
 ·rename_i hw
  simp only[hw] at h
  refine⟨fun f _=>hF.fn f,⟨_,rfl⟩,?_⟩
  rw[←Act.put_comm a v undef h2]
  exact h.2
def YQ(P:Program)(ops:Array Oper)(o:Oper)(v:Value)(cells:List ((Nat×Nat)×Value))(g:Gh)(lv:List (Nat×Option Nat))(a:Act)(w:World):Prop:=
 (Region.wanted o (yielded ops a.tmps)=true∧(∀p∈cells,Safe w g lv p.1.1 p.1.2∧w.cell? ⟨p.1.1,p.1.2,none⟩=some p.2)∧∀W:World,(∀p∈cells,W.cell? ⟨p.1.1,p.1.2,none⟩=some p.2)→(execOp a.eval o).run P W=.ok (.value v) W)∨
 (Region.wanted o (yielded ops a.tmps)=false∧v=undef∧cells=[])
theorem YQ.wpOp (hF:Open F){i:Nat}{o:Oper}{v:Value}{cells:List ((Nat×Nat)×Value)}{g:Gh}{lv:List (Nat×Option Nat)}{a:Act}{w:World}(hi:ops[i]? =some o)(hdf:∀c,o.op≠ .defer c)(hy:YQ P ops o v cells g lv a w){K:Act→World→Prop}(h:K (a.put o.dst v) w):wpOpIn F n P ops Q i K a w:=by
 unfold wpOpIn
 simp only[hi]
 rcases hy with⟨hw,hc,hr⟩ | ⟨hw,rfl,_⟩
 ·rw[if_pos hw]
  refine⟨fun f _=>hF.fn f,?_⟩
  rw[Oper.semAt_plain F _ _ hdf,hr w (fun p hp=>(hc p hp).2)]
  exact h
 ·rw[if_neg (by rw[hw];simp)]
  exact⟨fun f _=>hF.fn f,h⟩
theorem eval_tmps{a a':Act}(h:a'.tmps=a.tmps):a'.eval=a.eval:=by
 funext x
 cases x <;> simp[Act.eval,h]
def Apart(cells:List ((Nat×Nat)×Value))(ops:Array Oper)(a:Act)(oj:Oper):Prop:=
 cells≠[]→Op.isStore oj.op=false∨∃t s y,oj.op=.store t (.tmp s) y∧s∈fixedStores ops.toList∧∀p∈cells,∀q,a.eval (.tmp s)≠ .pointer (some ⟨p.1.1,q,none⟩)
theorem Apart.bad {cells:List ((Nat×Nat)×Value)}{a:Act}{oj:Oper}(h:Apart cells ops a oj):∀p∈cells,¬bad oj a p.1.1:=fun p hp hb=>by
 rcases h (by rintro rfl;cases hp) with h | ⟨t,s,y,h1,_,h3⟩
 ·rw[bad_store hb] at h;cases h
 ·unfold Proofs.YtknelogmocedeaaGreatDoor.bad at hb
  rw[h1] at hb
  obtain⟨q,hq⟩:=hb
  exact h3 p hp q hq
theorem bad_put{o:Oper}{a:Act}{dst:Option Nat}{v:Value}{b:Nat}(h:∀d,dst=some d→d∉o.looksAt ops)(hb:Proofs.YtknelogmocedeaaGreatDoor.bad o (a.put dst v) b):Proofs.YtknelogmocedeaaGreatDoor.bad o a b:=by
 unfold Proofs.YtknelogmocedeaaGreatDoor.bad at hb ⊢
 split
 ·rename_i t x y ho
  rw[ho] at hb
  obtain⟨q,hq⟩:=hb
  refine⟨q,?_⟩
  rw[Act.eval_put fun d hd hxd=>h d hd (by
   subst hxd
   exact List.mem_append_left _ (List.mem_filterMap.2 ⟨.tmp d,by rw[ho];simp[Op.operands],rfl⟩))] at hq
  exact hq
 ·rename_i hne
  split at hb
  ·rename_i t x y ho;exact absurd ho (hne t x y)
  ·exact hb
theorem fixed_dst{ops:Array Oper}{s j:Nat}{oj:Oper}(h:s∈fixedStores ops.toList)(hj:ops[j]? =some oj):oj.dst≠some s:=fun e=>by
 obtain⟨o,_,ho⟩:=List.mem_filterMap.1 h
 split at ho
 ·split at ho
  ·rename_i hall
   cases ho
   have:=List.all_eq_true.1 hall oj (by simpa using Array.mem_of_getElem? hj)
   rw[e] at this
   simp at this
  ·cases ho
 ·cases ho
theorem Apart.put {cells:List ((Nat×Nat)×Value)}{a a':Act}{j:Nat}{oj ok:Oper}{u:Value}(h:Apart cells ops a ok)(hj:ops[j]? =some oj)(hu:a'.tmps=(a.put oj.dst u).tmps):Apart cells ops a' ok:=fun hn=>by
 rcases h hn with h | ⟨t,s,y,h1,h2,h3⟩
 ·exact .inl h
 ·refine .inr ⟨t,s,y,h1,h2,fun p hp q hq=>h3 p hp q ?_⟩
  have e1:a'.eval (.tmp s)=a.eval (.tmp s):=by
   show a'.tmps.getD s undef=a.tmps.getD s undef
   rw[hu]
   exact put_keep a oj.dst u s (fixed_dst h2 hj)
  rw[←e1];exact hq
theorem anyK_take(hF:Open F){i:Nat}{oi:Oper}{v:Value}{cells:List ((Nat×Nat)×Value)}(hi:ops[i]? =some oi)(hsel:∀(j:Nat) (o:Oper) cs b,ops[j]? =some o→o.op≠ .select cs b)(hdef:∀(j:Nat) (o:Oper) c,ops[j]? =some o→o.op≠ .defer c)
  (hQ:∀c a w,Q (.panic c) (a.put oi.dst v) w→Q (.panic c) a w):
  ∀(fuel:Nat) (listed:Array Bool) (g:Gh) (lv:List (Nat×Option Nat)) (a:Act) (w:World),
   (∀j oj,ops[j]? =some oj→j≠i→listed.getD j true=false→(∀e∈oj.after,Region.binds .any e=true→e.on≠i)→oi.apart ops oj=true∧((∀p∈cells,g.L p.1.1 p.1.2)∨Apart cells ops a oj))→
   i∈Region.ready .any ops listed→YQ P ops oi v cells g lv a w→
   AnyK F n P ops Q fuel (listed.setIfInBounds i true) g lv (a.put oi.dst v) w→AnyK F n P ops Q (fuel+1) listed g lv a w:=by
 intro fuel
 induction fuel with
 | zero=>
  intro listed g lv a w _ hr hy H
  refine⟨fun h=>(by rw[h] at hr;cases hr),fun j hj=>?_⟩
  by_cases hji:j=i
  ·subst hji;exact hy.wpOp hF hi (hdef j oi · hi) ⟨g,lv,fun _ _=>(Tame.refl _ _ _).b,Same.refl _ _,H⟩
  ·have:=ready_mono hj hji
   rw[H.1] at this
   cases this
 | succ fuel ih=>
  intro listed g lv a w hfree hr hy H
  refine⟨fun h=>(by rw[h] at hr;cases hr),fun j hj=>?_⟩
  by_cases hji:j=i
  ·subst hji;exact hy.wpOp hF hi (hdef j oi · hi) ⟨g,lv,fun _ _=>(Tame.refl _ _ _).b,Same.refl _ _,H⟩
  ·have h1:=H.2 j (ready_mono hj hji)
   obtain⟨hjun,oj,hoj,hall⟩:=mem_ready.1 hj
   have hnot:∀e∈oj.after,Region.binds .any e=true→e.on≠i:=fun e he hb heq=>by
    have h1:=hall e he hb
    have h0:=(mem_ready.1 hr).1
    rw[heq] at h1
    rcases Nat.lt_or_ge i listed.size with h' | h'
    ·simp[h'] at h0 h1;rw[h0] at h1;cases h1
    ·simp[Array.getElem?_eq_none h'] at h1
   obtain⟨hap,hst⟩:=hfree j oj hoj hji hjun hnot
   have h2:=wpOpIn_beside hF hoj hap (fun cs b=>hsel j oj cs b hoj) (fun c=>hdef j oj c hoj) hQ h1
   have hfree':∀k ok,ops[k]? =some ok→k≠i→(listed.setIfInBounds j true).getD k true=false→
     (∀e∈ok.after,Region.binds .any e=true→e.on≠i)→oi.apart ops ok=true∧((∀p∈cells,g.L p.1.1 p.1.2)∨Apart cells ops a ok):=fun k ok hk hki hun hno=>by
    refine hfree k ok hk hki ?_ hno
    by_cases hjk:j=k
    ·subst hjk;exact hjun
    ·rw[getD_set_ne true hjk] at hun;exact hun
   refine wpOpIn_mono (fun a' w' ⟨⟨u,hu⟩,g',lv',htm,hsm,h3⟩=>⟨g',lv',fun o' ho' b ok u h1 h2 h3=>htm o' ho' b ok u h1 (fun hb=>h2 (by rw[hoj] at ho';cases ho';exact bad_put (Oper.apart_spec hap).1 hb)) h3,hsm,ih (listed.setIfInBounds j true) g' lv' a' w' (fun k ok hk hki hun hno=>⟨(hfree' k ok hk hki hun hno).1,(hfree' k ok hk hki hun hno).2.imp (fun hv p hp=>by
    rcases hy with⟨_,y2,_⟩ | ⟨_,_,y3⟩
    ·exact(hsm.c _ _ _ (hv p hp) (y2 p hp).2).1
    ·rw[y3] at hp;cases hp) (fun h=>h.put hoj hu)⟩) (ready_mono hr (Ne.symm hji)) ?_ ?_⟩) h2
   ·obtain⟨q1,q2,q3⟩:=Oper.apart_spec hap
    have e1:execOp a'.eval oi=execOp a.eval oi:=by
     rw[eval_tmps hu]
     exact execOp_put oi (fun cs b=>hsel i oi cs b hi) a oj.dst u q3
    have e2:Region.wanted oi (yielded ops a'.tmps)=Region.wanted oi (yielded ops a.tmps):=by
     rw[hu]
     exact wanted_put oi a oj.dst u q3
    rcases hy with⟨y1,y2,y3⟩ | ⟨y1,y2,y3⟩
    ·refine .inl ⟨e2.trans y1,fun p hp=>?_,fun W hW=>by rw[e1];exact y3 W hW⟩
     obtain⟨s1,s2⟩:=y2 p hp
     rcases hst with hv | hst
     ·obtain⟨c1,c2⟩:=hsm.c _ _ _ (hv p hp) s2
      exact⟨⟨World.block_lt_of_cell? w' _ c2,.inl c1⟩,c2⟩
     have:=htm oj (by rw[hoj]) _ _ _ s1 ((hst.put hi (a':=a.put oi.dst v) rfl).bad p hp) s2
     exact⟨this.2,this.1⟩
    ·exact .inr ⟨e2.trans y1,y2,y3⟩
   ·rw[Array.setIfInBounds_comm _ _ hji]
    exact h3
theorem put_n(st:St)(d:Option Nat)(t:T):(st.put d t).n=st.n:=by
 cases d with
 | none=>rfl
 | some d=>by_cases h:d < st.n;rw[St.put_lt h];rw[St.put_ge h]
theorem quiet_noDefer{o:Oper}(h:quietOp o.op=true):∀c,o.op≠ .defer c:=fun c e=>by rw[e] at h;cases h
theorem semG_quiet(hT:TabOk P tb){C:Con}(hC:ConOk X C){o:Oper}{a:Act}{w:World}{g:Gh}{st:St}{K:St→Prop}(hq:quietOp o.op=true)(hd:Hd P X base S st a w g)(hs:semG tb C ops.toList o st K):∃v t cells,YQ P ops o v cells g st.lv a w∧RepT P w g t v∧K (st.put o.dst t)∧(cells≠[]→Op.isLoad o.op=true)∧(∀p∈cells,∀t x,o.op=.load t x→∃q,a.eval x=.pointer (some ⟨p.1.1,q,none⟩))∧∀t x cs,o.op=.load t x→st.ev x=.ro cs→∀p∈cells,g.L p.1.1 p.1.2:=by
  have noload:∀{K:T→St→Prop},semOp tb C o st K→∃v t,∃cells:List ((Nat×Nat)×Value),(∀p∈cells,Safe w g st.lv p.1.1 p.1.2∧w.cell? ⟨p.1.1,p.1.2,none⟩=some p.2)∧(∀W:World,(∀p∈cells,W.cell? ⟨p.1.1,p.1.2,none⟩=some p.2)→(execOp a.eval o).run P W=.ok (.value v) W)∧RepT P w g t v∧K t st∧(cells≠[]→Op.isLoad o.op=true)∧(∀p∈cells,∀t x,o.op=.load t x→∃q,a.eval x=.pointer (some ⟨p.1.1,q,none⟩))∧∀t x cs,o.op=.load t x→st.ev x=.ro cs→∀p∈cells,g.L p.1.1 p.1.2:=fun {K} h=>semOp_ranQ hT hC hq hd h
  unfold semG at hs
  rw[frc_put] at hs
  split at hs
  · rename_i hg
    obtain⟨v,t,cells,h1,h2,h3,h4,h5⟩:=noload hs
    exact⟨v,t,cells,.inl ⟨by simp[Region.wanted,hg],h1,h2⟩,h3,h4,h5⟩
  · rename_i p hg
    split at hs <;> try exact hs.elim
    rename_i go hgo
    split at hs <;> try exact hs.elim
    rename_i d hdst
    have hev:=hd.env d
    have hy:∀q:Bool,tget st.env d=.v (.bool q)→Region.wanted o (yielded ops a.tmps)=(q==p.2):=fun q hq=>by
      rw[hq] at hev
      have hev':a.eval (.tmp d)=.bool q:=hev
      unfold Region.wanted
      rw[hg]
      have hyy:yielded ops a.tmps p.1=some q:=by
        unfold yielded
        rw[Array.getElem?_toList] at hgo
        rw[hgo]
        simp only[Option.bind_some,hdst]
        have h2:a.tmps.getD d undef=.bool q:=hev'
        cases h3:a.tmps[d]? with
        | none=>rw[Array.getD_eq_getD_getElem?,h3] at h2;cases h2
        | some z=>rw[Array.getD_eq_getD_getElem?,h3] at h2;rw[show z=_ from h2]
      show(yielded ops a.tmps p.1==some p.2)=_
      rw[hyy]
      cases q <;> cases p.2 <;> rfl
    have hz:tget st.env d=.tup []→Region.wanted o (yielded ops a.tmps)=false:=fun hq=>by
      rw[hq] at hev
      obtain⟨vs,h2,h3⟩:=hev
      have h4:a.tmps.getD d undef=.tuple #[]:=by
        rw[show vs=#[] from Array.toList_inj.1 (show vs.toList=[] from h3)] at h2
        exact h2
      unfold Region.wanted
      rw[hg]
      have hyy:yielded ops a.tmps p.1=none:=by
        unfold yielded
        rw[Array.getElem?_toList] at hgo
        rw[hgo]
        simp only[Option.bind_some,hdst]
        cases h3:a.tmps[d]? with
        | none=>rfl
        | some z=>
          rw[Array.getD_eq_getD_getElem?,h3] at h4
          rw[show z=.tuple #[] from h4]
      show(yielded ops a.tmps p.1==some p.2)=_
      rw[hyy]
      cases p.2 <;> rfl
    split at hs <;> try exact hs.elim
    all_goals
      first
        | (rename_i h1 h2
           have hw:=hy _ h1
           rw[h2] at hw
           first
             | (obtain⟨v,t,cells,i1,i2,i3,i4,i5⟩:=noload hs
                exact⟨v,t,cells,.inl ⟨hw,i1,i2⟩,i3,i4,i5⟩)
             | exact⟨undef,.tup [],[],.inr ⟨hw,rfl,rfl⟩,⟨#[],rfl,rfl⟩,hs,fun h=>absurd rfl h,fun p hp=>(by cases hp),fun _ _ _ _ _ p hp=>(by cases hp)⟩)
        | (rename_i h1
           exact⟨undef,.tup [],[],.inr ⟨hz h1,rfl,rfl⟩,⟨#[],rfl,rfl⟩,hs,fun h=>absurd rfl h,fun p hp=>(by cases hp),fun _ _ _ _ _ p hp=>(by cases hp)⟩)
structure Lnk(P:Program)(X:En)(base:Nat)(S:Nat→Prop)(N:Nat)(Wr:Nat→Prop)(a0:Act)(w0:World)(g0:Gh)(st:St)(a:Act)(w:World)(g:Gh):Prop where
 hd:Hd P X base S st a w g
 stp:Stp X base S N w0 g0 w g
 df:a.defers=a0.defers
 n:st.n=N
 kp:∀t,¬Wr t→a.tmps.getD t undef=a0.tmps.getD t undef
section
variable {Wr : Nat → Prop} {a0 : Act} {w0 : World} {g0 : Gh}
theorem one_step{X0:En}(hX:X.Le X0)(hF:Open F)(hT:TabOk P tb)(hWr:∀(j:Nat) (o:Oper) (d:Nat),ops[j]? =some o→o.dst=some d→Wr d){i:Nat}{o:Oper}(hi:ops[i]? =some o){st:St}{a:Act}{w:World}{g:Gh}{fuel:Nat}{listed:Array Bool}{K:St→Prop}(hs:semG tb (Cn P X0) ops.toList o st K)(h:Lnk P X base S N Wr a0 w0 g0 st a w g)
  (next:∀st' a' w' g',K st'→Lnk P X base S N Wr a0 w0 g0 st' a' w' g'→AnyK F n P ops Q fuel listed g' st'.lv a' w'):
  wpOpIn F n P ops Q i (fun a' w'=>∃g' lv',(∀o,ops[i]? =some o→TameB (bad o a) w g st.lv w' g' lv')∧Same g.L w g'.L w'∧AnyK F n P ops Q fuel listed g' lv' a' w') a w:=by
 have h1:=semG_wpIn hX hF hT (n:=n) (N:=N) Q h.n h.hd hs
 have nx:∀a' w',Aft P X base S N st.lv (bad o a) o.dst a w g K a' w'→∃g' lv',(∀o,ops[i]? =some o→TameB (bad o a) w g st.lv w' g' lv')∧Same g.L w g'.L w'∧AnyK F n P ops Q fuel listed g' lv' a' w':=fun a' w' ⟨st',g',q1,q2,q3,q4,q5,q6,q7⟩=>
  ⟨g',st'.lv,fun o' h'=>(by rw[hi] at h';cases h';exact q5),q3.same,next st' a' w' g' q1 ⟨q2,h.stp.trans q3,q4.trans h.df,(by have e1:=q2.sz;have e2:=h.hd.sz;have e3:=h.n;omega),fun t ht=>(q7 t (fun e=>ht (hWr _ o t hi e))).trans (h.kp t ht)⟩⟩
 unfold wpOpIn
 simp only[hi] at nx ⊢
 split
 ·rename_i hw
  rw[if_pos hw] at h1
  exact Oper.wpIn_mono nx h1
 ·rename_i hw
  rw[if_neg hw] at h1
  exact⟨h1.1,nx _ _ h1.2⟩
theorem free_step(hF:Open F)(hT:TabOk P tb)(hsel:Region.noSelect ops=true)(hdef:(ops.all fun o=> !Op.isDefer o.op)=true)(hQp:∀c a w,¬Q (.panic c) a w)(hWr:∀(j:Nat) (o:Oper) (d:Nat),ops[j]? =some o→o.dst=some d→Wr d){C:Con}(hC:ConOk X C){j:Nat}{oi:Oper}(hj:ops[j]? =some oi){st:St}{a:Act}{w:World}{g:Gh}{fuel:Nat}{listed:Array Bool}{K:St→Prop}(hq:quietOp oi.op=true)(q2:(Region.ready .any ops listed).contains j=true)(q3:Region.free .any ops listed j=true)(hs:semG tb C ops.toList oi st K)(h:Lnk P X base S N Wr a0 w0 g0 st a w g)
  (hap:∀cells:List ((Nat×Nat)×Value),(cells≠[]→Op.isLoad oi.op=true)→(∀p∈cells,∀t x,oi.op=.load t x→∃q,a.eval x=.pointer (some ⟨p.1.1,q,none⟩))→(∀t x cs,oi.op=.load t x→st.ev x=.ro cs→∀p∈cells,g.L p.1.1 p.1.2)→∀k ok,ops[k]? =some ok→k≠j→listed.getD k true=false→(∀e∈ok.after,Region.binds .any e=true→e.on≠j)→(∀p∈cells,g.L p.1.1 p.1.2)∨Apart cells ops a ok)
  (next:∀st' a' w' g',K st'→Lnk P X base S N Wr a0 w0 g0 st' a' w' g'→AnyK F n P ops Q fuel (listed.setIfInBounds j true) g' st'.lv a' w'):AnyK F n P ops Q (fuel+1) listed g st.lv a w:=by
 have hs0:=Region.noSelect_spec hsel
 have hd0:∀(j:Nat) (o:Oper) c,ops[j]? =some o→o.op≠ .defer c:=fun j o c hj e=>by
  have:=Array.all_eq_true_iff_forall_mem.1 hdef o (Array.mem_of_getElem? hj)
  rw[e] at this;cases this
 obtain⟨v,t,cells,y1,y2,y3,y4,y5,y6⟩:=semG_quiet hT hC hq h.hd hs
 refine anyK_take hF hj hs0 hd0 (fun c a w h=>absurd h (hQp c _ _)) fuel listed g st.lv a w (fun k ok hk hkj hun hno=>⟨Region.free_spec hj q3 k ok hk hkj hun hno,hap cells y4 y5 y6 k ok hk hkj hun hno⟩) (by simpa using q2) y1 ?_
 have:=next (st.put oi.dst t) (a.put oi.dst v) w g y3 ⟨h.hd.put oi.dst y2,h.stp,(put_defers _ _ _).trans h.df,(put_n _ _ _).trans h.n,fun t ht=>(put_keep _ _ _ t (fun e=>ht (hWr _ oi t hj e))).trans (h.kp t ht)⟩
 rwa [St.put_lv] at this
theorem any_step{X0:En}(hX:X.Le X0)(hF:Open F)(hT:TabOk P tb)(hsel:Region.noSelect ops=true)(hdef:(ops.all fun o=> !Op.isDefer o.op)=true)(hQp:∀c a w,¬Q (.panic c) a w)(hWr:∀(j:Nat) (o:Oper) (d:Nat),ops[j]? =some o→o.dst=some d→Wr d){i:Nat}{st:St}{a:Act}{w:World}{g:Gh}{fuel:Nat}{listed:Array Bool}{K:St→Prop}(hok:stepAny ops listed i=true)(hs:semAt tb (Cn P X0) ops.toList i st K)(h:Lnk P X base S N Wr a0 w0 g0 st a w g)
  (next:∀st' a' w' g',K st'→Lnk P X base S N Wr a0 w0 g0 st' a' w' g'→AnyK F n P ops Q fuel (listed.setIfInBounds (ixOf i) true) g' st'.lv a' w'):AnyK F n P ops Q (fuel+1) listed g st.lv a w:=by
 unfold stepAny at hok
 unfold semAt at hs
 unfold ixOf at next
 split at hok
 ·rename_i hlt
  rw[hlt] at hs next
  dsimp only at hs next
  rw[Array.getElem?_toList] at hs
  unfold stepOk at hok
  cases hi:ops[i]? with
  | none=>rw[hi] at hok;cases hok
  | some o=>
   rw[hi] at hs hok
   dsimp only at hs hok
   rw[Bool.or_eq_true] at hok
   rcases hok with hone | hq
   ·have hone':Region.ready .any ops listed=[i]:=by simpa using hone
    refine⟨fun h=>(by rw[hone'] at h;cases h),fun j hj=>?_⟩
    rw[hone'] at hj
    have hj':j=i:=by simpa using hj
    subst hj'
    exact one_step hX hF hT hWr hi hs h next
   ·simp only[Bool.and_eq_true] at hq
    obtain⟨⟨⟨q1,q2⟩,q3⟩,q4⟩:=hq
    refine free_step hF hT hsel hdef hQp hWr (conOk hX) hi q1 q2 q3 hs h (fun cells y4 y5 y6 j oj hj hji hun hno=>.inr fun hc=>.inl ?_) next
    rw[y4 hc] at q4
    simp only[Bool.not_true,Bool.false_or,List.all_eq_true,List.mem_range] at q4
    have:=q4 j (Array.getElem?_eq_some_iff.1 hj).1
    simp only[hj,Bool.or_eq_true,beq_iff_eq,hji,false_or,hun,Bool.false_eq_true] at this
    rcases this with h | h
    ·obtain⟨e,he,hb⟩:=Array.any_eq_true'.1 h
     simp only[Bool.and_eq_true,beq_iff_eq] at hb
     exact absurd hb.2 (hno e he hb.1)
    ·simpa using h
 ·rename_i hlt
  rw[hlt] at hs next
  dsimp only at hs next
  split at hok
  ·rename_i hlt2
   rw[hlt2] at hs next
   dsimp only at hs next
   rw[Array.getElem?_toList] at hs
   unfold stepOkS at hok
   cases hi:ops[i - 1000]? with
   | none=>rw[hi] at hok;cases hok
   | some o=>
    rw[hi] at hs hok
    dsimp only at hs hok
    simp only[Bool.and_eq_true] at hok
    obtain⟨⟨⟨q1,q2⟩,q3⟩,q4⟩:=hok
    split at hs <;> try exact hs.elim
    rename_i tl x hx
    split at hs <;> try exact hs.elim
    rotate_left
    ·rename_i hxb
     split at hs <;> try exact hs.elim
     rename_i gn
     split at hs <;> try exact hs.elim
     rename_i hsep
     obtain⟨⟨gvv,hgv⟩,hs⟩:=hs
     have hgE:=(conOk hX h.hd.E hgv).1
     have hev':a.eval (.global gn)=.pointer (some ⟨gn,0,none⟩):=rfl
     refine free_step hF hT hsel hdef hQp hWr (conOk hX) hi q1 q2 q3 hs h (fun cells y4 y5 y6 k ok hk hkj hun hno=>.inr fun hc=>?_) next
     simp only[List.all_eq_true,List.mem_range] at q4
     have:=q4 k (Array.getElem?_eq_some_iff.1 hk).1
     simp only[hk,Bool.or_eq_true,beq_iff_eq,hkj,false_or,hun,Bool.false_eq_true] at this
     rcases this with(h' | h') | h'
     ·obtain⟨e,he,hb⟩:=Array.any_eq_true'.1 h'
      simp only[Bool.and_eq_true,beq_iff_eq] at hb
      exact absurd hb.2 (hno e he hb.1)
     ·exact .inl (by simpa using h')
     ·split at h' <;> try cases h'
      rename_i ts s ys hst'
      have hmem:s∈fixedStores ops.toList:=by simpa using h'
      refine .inr ⟨ts,s,ys,hst',hmem,fun p hp q hq=>?_⟩
      obtain⟨q',hq'⟩:=y5 p hp tl (.global gn) hx
      rw[hev'] at hq'
      have hb1:gn=p.1.1:=by injection hq' with h1;injection h1 with h1;injection h1
      have key:∀l:List Nat,sepG st l=true→s∈l→∃j o',tget st.env s=.ptr j o'∧isK st.bs j:=by
       intro l
       induction l with
       | nil=>intro _ h;cases h
       | cons z r ihl=>
        intro h hm
        rw[sepG,Bool.and_eq_true] at h
        rcases List.mem_cons.1 hm with rfl | hm
        ·have h1:=h.1
         split at h1
         ·rename_i j o' hj'
          exact⟨j,o',hj',h1⟩
         ·cases h1
        ·exact ihl h.2 hm
      have hfree:s∈freeStores ops.toList (i - 1000):=by
       refine List.mem_filter.2 ⟨hmem,List.any_eq_true.2 ⟨ok,?_,?_⟩⟩
       ·exact List.mem_of_getElem? (by rw[Array.getElem?_toList];exact hk)
       ·rw[hst']
        simp only[Nat.beq_refl,Bool.true_and,Bool.not_eq_true']
        cases hany:ok.after.toList.any fun e=>Region.binds .any e&&Nat.beq e.on (i - 1000) with
        | false=>rfl
        | true=>
         obtain⟨e,he,hb⟩:=List.any_eq_true.1 hany
         rw[Bool.and_eq_true] at hb
         exact absurd (Nat.eq_of_beq_eq_true hb.2) (hno e (Array.mem_def.2 he) hb.1)
      obtain⟨j,o',hj1,hj3⟩:=key _ hsep hfree
      have hej:=h.hd.env s
      rw[hj1] at hej
      rw[show a.eval (.tmp s)=.pointer (some ⟨(g.ρ j).1,(g.ρ j).2+o',none⟩) from hej] at hq
      have hb2:(g.ρ j).1=p.1.1:=by injection hq with h1;injection h1 with h1;injection h1
      exact h.hd.mm.bxE hj3 (by rw[hb2,←hb1];exact hgE)
    rename_i b ofb hxb
    split at hs <;> try exact hs.elim
    rename_i hsep
    rw[Bool.and_eq_true] at hsep
    have hev:=h.hd.ev x
    rw[hxb] at hev
    have hev':a.eval x=.pointer (some ⟨(g.ρ b).1,(g.ρ b).2+ofb,none⟩):=hev
    refine free_step hF hT hsel hdef hQp hWr (conOk hX) hi q1 q2 q3 hs h (fun cells y4 y5 y6 k ok hk hkj hun hno=>.inr fun hc=>?_) next
    simp only[List.all_eq_true,List.mem_range] at q4
    have:=q4 k (Array.getElem?_eq_some_iff.1 hk).1
    simp only[hk,Bool.or_eq_true,beq_iff_eq,hkj,false_or,hun,Bool.false_eq_true] at this
    rcases this with(h' | h') | h'
    ·obtain⟨e,he,hb⟩:=Array.any_eq_true'.1 h'
     simp only[Bool.and_eq_true,beq_iff_eq] at hb
     exact absurd hb.2 (hno e he hb.1)
    ·exact .inl (by simpa using h')
    ·split at h' <;> try cases h'
     rename_i ts s ys hst'
     have hmem:s∈fixedStores ops.toList:=by simpa using h'
     refine .inr ⟨ts,s,ys,hst',hmem,fun p hp q hq=>?_⟩
     obtain⟨q',hq'⟩:=y5 p hp tl x hx
     rw[hev'] at hq'
     have hb1:(g.ρ b).1=p.1.1:=by injection hq' with h1;injection h1 with h1;injection h1
     have key:∀l:List Nat,sepB st b l=true→s∈l→∃j o',tget st.env s=.ptr j o'∧b≠j∧isK st.bs j:=by
      intro l
      induction l with
      | nil=>intro _ h;cases h
      | cons z r ihl=>
       intro h hm
       rw[sepB,Bool.and_eq_true] at h
       rcases List.mem_cons.1 hm with rfl | hm
       ·have h1:=h.1
        split at h1
        ·rename_i j o' hj'
         rw[Bool.and_eq_true] at h1
         exact⟨j,o',hj',fun e=>by rw[e] at h1;simp at h1,h1.2⟩
        ·cases h1
       ·exact ihl h.2 hm
     have hfree:s∈freeStores ops.toList (i - 1000):=by
      refine List.mem_filter.2 ⟨hmem,List.any_eq_true.2 ⟨ok,?_,?_⟩⟩
      ·exact List.mem_of_getElem? (by rw[Array.getElem?_toList];exact hk)
      ·rw[hst']
       simp only[Nat.beq_refl,Bool.true_and,Bool.not_eq_true']
       cases hany:ok.after.toList.any fun e=>Region.binds .any e&&Nat.beq e.on (i - 1000) with
       | false=>rfl
       | true=>
        obtain⟨e,he,hb⟩:=List.any_eq_true.1 hany
        rw[Bool.and_eq_true] at hb
        exact absurd (Nat.eq_of_beq_eq_true hb.2) (hno e (Array.mem_def.2 he) hb.1)
     obtain⟨j,o',hj1,hj2,hj3⟩:=key _ hsep.2 hfree
     have hej:=h.hd.env s
     rw[hj1] at hej
     rw[show a.eval (.tmp s)=.pointer (some ⟨(g.ρ j).1,(g.ρ j).2+o',none⟩) from hej] at hq
     have hb2:(g.ρ j).1=p.1.1:=by injection hq with h1;injection h1 with h1;injection h1
     exact h.hd.mm.inj hsep.1 hj3 hj2 (hb1.trans hb2.symm)
  ·rename_i hlt2
   rw[hlt2] at hs next
   dsimp only at hs next
   rw[Array.getElem?_toList] at hs
   unfold stepOkR at hok
   cases hi:ops[i - 3000]? with
   | none=>rw[hi] at hok;cases hok
   | some o=>
    rw[hi] at hs hok
    dsimp only at hs hok
    simp only[Bool.and_eq_true] at hok
    obtain⟨⟨q1,q2⟩,q3⟩:=hok
    split at hs <;> try exact hs.elim
    rename_i tl x hx
    split at hs <;> try exact hs.elim
    rename_i cs hxb
    exact free_step hF hT hsel hdef hQp hWr (conOk hX) hi q1 q2 q3 hs h (fun cells y4 y5 y6 k ok hk hkj hun hno=>.inl (y6 tl x cs hx hxb)) next
theorem leE_get{e e0:List (Nat×T)}{t:Nat}{x:T}:∀{l:List (Nat×T)},leE e e0 l→(t,x)∈l→tget e t=tget e0 t
 | [],_,h=>by cases h
 | p::r,h,hm=>by
  rcases List.mem_cons.1 hm with rfl | hm
  ·exact h.1
  ·exact leE_get h.2 hm
theorem leB_get{e e0:List (Nat×List T)}{t:Nat}{x:List T}:∀{l:List (Nat×List T)},leB e e0 l→(t,x)∈l→lk t e=lk t e0
 | [],_,h=>by cases h
 | p::r,h,hm=>by
  rcases List.mem_cons.1 hm with rfl | hm
  ·exact h.1
  ·exact leB_get h.2 hm
theorem leL_get{e e0:List (Nat×Option Nat)}{t:Nat}{x:Option Nat}:∀{l:List (Nat×Option Nat)},leL e e0 l→(t,x)∈l→lget e t=lget e0 t
 | [],_,h=>by cases h
 | p::r,h,hm=>by
  rcases List.mem_cons.1 hm with rfl | hm
  ·exact h.1
  ·exact leL_get h.2 hm
theorem lk_mem'{β:Type}{n:Nat}{x:β}:∀{l:List (Nat×β)},lk n l=some x→(n,x)∈l
 | [],h=>by cases h
 | p::r,h=>by
  unfold lk at h
  split at h
  ·rename_i hb
   have:=Nat.eq_of_beq_eq_true hb
   cases h
   subst this
   exact List.mem_cons_self
  ·exact List.mem_cons_of_mem _ (lk_mem' h)
theorem Hd.le' {st st0:St}{a:Act}{w:World}{g:Gh}(h:Hd P X base S st a w g)(hl:St.le st st0):Hd P X base S st0 a w g:=by
 obtain⟨l1,l2,l3,l4⟩:=hl
 have bk:∀{i cs},lk i st0.bs=some cs→lk i st.bs=some cs:=fun {i cs} hi=>(leB_get l3 (lk_mem' hi)).trans hi
 have kk:∀{i},isK st0.bs i→isK st.bs i:=fun {i} hi=>by
  unfold isK at hi ⊢
  obtain⟨cs,hcs⟩:=Option.isSome_iff_exists.1 hi
  rw[bk hcs];rfl
 have lv:∀{k e},lget st0.lv k=some e→lget st.lv k=some e:=fun {k e} hk=>by
  have hm:(k,some e)∈st0.lv:=by
   unfold lget at hk
   split at hk
   ·rename_i hk';cases hk;exact lk_mem' hk'
   ·cases hk
  exact(leL_get l4 hm).trans hk
 refine⟨h.sz.trans l1,fun t=>?_,⟨fun hi=>h.mm.box (bk hi),fun hi=>h.mm.frz (kk hi),fun hi=>h.mm.bxL (kk hi),fun hi=>h.mm.bxE (kk hi),fun hi=>h.mm.loc (kk hi),fun hi=>h.mm.lt (kk hi),fun hi hj=>h.mm.inj (kk hi) (kk hj),fun hk=>?_,fun hk hk'=>h.mm.ownInj (lv hk) (lv hk'),h.mm.Lc,fun hi=>h.mm.bc (kk hi),fun hk=>h.mm.ownE (lv hk)⟩,h.E,h.le⟩
 ·cases ht:lk t st0.env with
  | none=>unfold tget;rw[ht];trivial
  | some x=>rw[←leE_get l2 (lk_mem' ht)];exact h.env t
 ·obtain⟨n,vals,o1,o2⟩:=h.mm.own (lv hk)
  exact⟨n,vals,o1,fun b hb=>⟨(o2 b hb).1,fun i hi=>(o2 b hb).2 i (kk hi)⟩⟩
theorem leE_refl(e:List (Nat×T)):∀l,leE e e l
 | []=>trivial
 | _::r=>⟨rfl,leE_refl e r⟩
theorem leB_refl(e:List (Nat×List T)):∀l,leB e e l
 | []=>trivial
 | _::r=>⟨rfl,leB_refl e r⟩
theorem leL_refl(e:List (Nat×Option Nat)):∀l,leL e e l
 | []=>trivial
 | _::r=>⟨rfl,leL_refl e r⟩
theorem St.le_refl (st:St):St.le st st:=⟨rfl,leE_refl _ _,leB_refl _ _,leL_refl _ _⟩
theorem tr_anyK{X0:En}(hX:X.Le X0)(hF:Open F)(hT:TabOk P tb)(hsel:Region.noSelect ops=true)(hdef:(ops.all fun o=> !Op.isDefer o.op)=true){K:St→Prop}(hWr:∀(j:Nat) (o:Oper) (d:Nat),ops[j]? =some o→o.dst=some d→Wr d)
  (hQn:∀a w st g,K st→Lnk P X base S N Wr a0 w0 g0 st a w g→Q .normal a w) (hQp:∀c a w,¬Q (.panic c) a w):
  ∀(t:Tr) (listed:Array Bool) (st:St) (a:Act) (w:World) (g:Gh),semTr tb (Cn P X0) ops.toList t st K→Lnk P X base S N Wr a0 w0 g0 st a w g→
   (∀fuel,t.dep≤fuel→takeT ops false t listed=true→AnyK F n P ops Q fuel listed g st.lv a w)∧
   (∀fuel,t.dep≤fuel+1→takeT ops true t listed=true→∀j∈heads t,wpOpIn F n P ops Q j (fun a' w'=>∃g' lv',(∀o,ops[j]? =some o→TameB (bad o a) w g st.lv w' g' lv')∧Same g.L w g'.L w'∧AnyK F n P ops Q fuel (listed.setIfInBounds j true) g' lv' a' w') a w):=by
 intro t
 induction t with
 | nil=>
  intro listed st a w g hs h
  refine⟨fun fuel _ hok=>?_,fun fuel _ hok j hj=>by cases hj⟩
  have hr:Region.ready .any ops listed=[]:=by simpa [takeT] using hok
  have hq:=hQn a w st g hs h
  cases fuel with
  | zero=>exact⟨hr,hq⟩
  | succ fuel=>exact⟨fun _=>hq,by rw[hr];simp⟩
 | one i r ih=>
  intro listed st a w g hs h
  refine⟨fun fuel hf hok=>?_,fun fuel hf hok j hj=>?_⟩
  ·obtain⟨fuel,rfl⟩:∃m,fuel=m+1:=⟨fuel - 1,by simp[Tr.dep] at hf;omega⟩
   unfold takeT at hok
   dsimp only at hok
   rw[Bool.and_eq_true] at hok
   exact any_step hX hF hT hsel hdef hQp hWr hok.1 hs h fun st' a' w' g' hk h'=>(ih _ st' a' w' g' hk h').1 fuel (by simp[Tr.dep] at hf;omega) hok.2
  ·unfold takeT at hok
   dsimp only at hok
   rw[Bool.and_eq_true] at hok
   obtain⟨hlt,hok⟩:=hok
   have hj':j=i:=by simpa [heads] using hj
   subst hj'
   unfold semTr semAt at hs
   rw[hlt] at hs
   dsimp only at hs
   rw[Array.getElem?_toList] at hs
   cases hi:ops[j]? with
   | none=>rw[hi] at hs;exact hs.elim
   | some o=>
    rw[hi] at hs
    dsimp only at hs
    have:=one_step hX hF hT hWr hi (fuel:=fuel) (listed:=listed.setIfInBounds j true) (n:=n) (Q:=Q) hs h fun st' a' w' g' hk h'=>(ih _ st' a' w' g' hk h').1 fuel (by simp[Tr.dep] at hf;omega) hok
    rw[hi] at this
    exact this
 | or x y ihx ihy=>
  intro listed st a w g hs h
  obtain⟨hx,hy⟩:=hs
  have alt:∀fuel,(Tr.or x y).dep≤fuel+1→takeT ops true x listed=true→takeT ops true y listed=true→∀j∈heads (Tr.or x y),wpOpIn F n P ops Q j (fun a' w'=>∃g' lv',(∀o,ops[j]? =some o→TameB (bad o a) w g st.lv w' g' lv')∧Same g.L w g'.L w'∧AnyK F n P ops Q fuel (listed.setIfInBounds j true) g' lv' a' w') a w:=fun fuel hf h1 h2 j hj=>by
   rcases List.mem_append.1 hj with hj | hj
   ·exact(ihx listed st a w g hx h).2 fuel (by simp[Tr.dep] at hf;omega) h1 j hj
   ·exact(ihy listed st a w g hy h).2 fuel (by simp[Tr.dep] at hf;omega) h2 j hj
  refine⟨fun fuel hf hok=>?_,fun fuel hf hok=>?_⟩
  ·unfold takeT at hok
   simp only[Bool.false_or,Bool.and_eq_true] at hok
   obtain⟨⟨hne,hall⟩,h1,h2⟩:=hok
   have hall':∀j∈Region.ready .any ops listed,j∈heads (Tr.or x y):=fun j hj=>by
    have:=List.all_eq_true.1 hall j hj
    simpa [heads] using this
   have hne':Region.ready .any ops listed≠[]:=fun e=>by rw[e] at hne;cases hne
   cases fuel with
   | zero=>
    have none_:∀t:Tr,t.dep=0→heads t=[]:=by
     intro t
     induction t with
     | nil=>intro _;rfl
     | one i r _=>intro h;simp[Tr.dep] at h
     | or a b iha ihb=>intro h;simp[Tr.dep] at h;simp[heads,iha (by omega),ihb (by omega)]
    obtain⟨j,l,hjl⟩:=List.exists_cons_of_ne_nil hne'
    have:=hall' j (by rw[hjl];exact List.mem_cons_self)
    rw[none_ _ (by omega)] at this
    cases this
   | succ fuel=>exact⟨fun hr=>absurd hr hne',fun j hj=>alt fuel hf h1 h2 j (hall' j hj)⟩
  ·unfold takeT at hok
   simp only[Bool.true_or,Bool.true_and,Bool.and_eq_true] at hok
   exact alt fuel hf hok.1 hok.2
theorem sch_anyK{X0:En}(hX:X.Le X0)(hF:Open F)(hT:TabOk P tb)(hsel:Region.noSelect ops=true)(hdef:(ops.all fun o=> !Op.isDefer o.op)=true){K:St→Prop}(hWr:∀(j:Nat) (o:Oper) (d:Nat),ops[j]? =some o→o.dst=some d→Wr d)
  (hQn:∀a w st g,K st→Lnk P X base S N Wr a0 w0 g0 st a w g→Q .normal a w) (hQp:∀c a w,¬Q (.panic c) a w):
  ∀(sch:List Nat) (fuel:Nat) (listed:Array Bool) (st:St) (a:Act) (w:World) (g:Gh),sch.length≤fuel→9999∉sch→takeOk ops sch listed=true→semSch tb (Cn P X0) ops.toList sch st K→Lnk P X base S N Wr a0 w0 g0 st a w g→AnyK F n P ops Q fuel listed g st.lv a w:=by
 intro sch
 induction sch with
 | nil=>
  intro fuel listed st a w g _ _ hok hs h
  have hr:Region.ready .any ops listed=[]:=by simpa [takeOk] using hok
  have hq:=hQn a w st g hs h
  cases fuel with
  | zero=>exact⟨hr,hq⟩
  | succ fuel=>exact⟨fun _=>hq,by rw[hr];simp⟩
 | cons i r ih=>
  intro fuel listed st a w g hlen hne hok hs h
  obtain⟨fuel,rfl⟩:∃m,fuel=m+1:=⟨fuel - 1,by simp at hlen;omega⟩
  have hb:Nat.beq i 9999=false:=by
   rw[←Bool.not_eq_true,Nat.beq_eq]
   intro e;exact hne (by rw[e];exact List.mem_cons_self)
  unfold takeOk at hok
  unfold semSch at hs
  rw[hb] at hok hs
  dsimp only at hok hs
  rw[Bool.and_eq_true] at hok
  exact any_step hX hF hT hsel hdef hQp hWr hok.1 hs h fun st' a' w' g' hk h'=>ih fuel _ st' a' w' g' (by simp at hlen;omega) (fun hm=>hne (List.mem_cons_of_mem _ hm)) hok.2 hk h'
end
end Go.Proofs.YtknelogmocedeaaGreatDoor
namespace Go.Proofs.YtknelogmocedeaaGreatDoor.Rng
open Go.RowKit Go.Shelf
set_option linter.unusedVariables false
variable {P : Program}
structure Rec where
 fn:FuncId
 tmps:Array Value
 params:Array Tmp
 assign:Code
 body:Code
 defers:Nat
def Rec.at (r:Rec)(st:LoopState)(pe:Option Code):Obj:=.loop {state:=st,pending:=pe,fn:=r.fn,tmps:=r.tmps,params:=r.params,assign:=r.assign,body:=r.body,defers:=r.defers}
theorem wp_range{n:Nat}{g:Operand}{ps:Array Tmp}{assign body:Code}{Q:Exit→Act→World→Prop}{a:Act}{w:World}{gf:Nat}{lb:Array Value}
    (hg:a.eval g=.func (.func gf) #[] lb) (eg:∀args w,(callFunc gf args).run P w=.ok (.enter gf args) w)
    (h : ∀ fn, Calls P gf (#[.func (.yield (w.heap.size + 1)) #[] #[]] ++ lb) ((w.alloc (.deferred (some []))).alloc (Rec.at ⟨fn, a.tmps, ps, assign, body, w.heap.size⟩ .ready none)) fun e w3 =>
      (∃ v, e = .returned v) ∧ ∃ st pe, st ≠ .busy ∧ w3.heap[w.heap.size + 1]? = some (Rec.at ⟨fn, a.tmps, ps, assign, body, w.heap.size⟩ st pe) ∧
        (match pe with
         | none=>Q .normal {a with defers:={target:=.collected w.heap.size,args:=#[]}::a.defers} (w3.putObj (w.heap.size+1) (Rec.at ⟨fn,a.tmps,ps,assign,body,w.heap.size⟩ .exhausted pe))
         | some c=>c.wp P Q {a with defers:={target:=.collected w.heap.size,args:=#[]}::a.defers} (w3.putObj (w.heap.size+1) (Rec.at ⟨fn,a.tmps,ps,assign,body,w.heap.size⟩ .exhausted pe)))):
    (Code.rangeFunc g ps assign body).wp P Q a w:=by
  refine(wpIn_wide (n:=n)).1 (wpIn_rangeFunc fun fn _=>?_)
  refine⟨w.heap.size+1,[{target:=.collected w.heap.size,args:=#[]}],(w.alloc (.deferred (some []))).alloc (Rec.at ⟨fn,a.tmps,ps,assign,body,w.heap.size⟩ .ready none),{target:=.fn (.func gf) lb,args:=#[.func (.yield (w.heap.size+1)) #[] #[]]},((w.alloc (.deferred (some []))).alloc (Rec.at ⟨fn,a.tmps,ps,assign,body,w.heap.size⟩ .ready none)),gf,
    #[.func (.yield (w.heap.size+1)) #[] #[]]++lb,((w.alloc (.deferred (some []))).alloc (Rec.at ⟨fn,a.tmps,ps,assign,body,w.heap.size⟩ .ready none)),run_enterLoop_outer _ _ _ _ _,?_,fun f' _=>trivial,?_,fun h=>by simp[Fence.wide] at h,?_⟩
  · simp only[resolve,hg]
    simp[go_sem]
  · simp[invoke,go_sem,eg]
  · refine callsIn_wide.2 ((h fn).mono ?_)
    rintro e w3 ⟨⟨v,rfl⟩,st,pe,hst,hl,hq⟩
    refine⟨pe,_,run_endLoop (P:=P) hl (by simpa using hst),?_⟩
    cases pe with
    | none=>exact hq
    | some c=>exact(wpIn_wide).2 hq
theorem round{m l:Nat}{r:Rec}{tmps:Array Value}{W:World}{R:Ending→World→Prop}(hl:W.heap[l]? =some (r.at .ready none))
  (h:r.assign.wpIn (Fence.wide.inRound l) m P (Exit.then (fun a1 W1=>W1.heap[l]? =some (r.at .ready none)∧
   r.body.wpIn (Fence.wide.inRound l) m P (fun e _ W3=>W3.heap[l]? =some (r.at .busy none)∧
    match e with
    | .normal=>R (.returned (.bool true)) (W3.putObj l (r.at .ready none))
    | .ret=>R (.returned (.bool false)) (W3.putObj l (r.at .done (some .ret)))
    | .exit id=>R (.returned (.bool false)) (W3.putObj l (r.at .done (some (.exit id))))
    | .goto t=>R (.returned (.bool false)) (W3.putObj l (r.at .done (some (.goto t))))
    | _=>False) a1 (W1.putObj l (r.at .busy none))) (fun _ _ _=>False)) {tmps:=tmps,defers:=[]} W):
  RoundIn Fence.wide m P l r.fn tmps r.assign r.body W R:=by
 refine roundIn_of_wpIn trivial (wpIn_mono h ?_)
 intro e a1 W1 hq
 cases e with
 | normal=>
  obtain⟨h1,h2⟩:=hq
  refine⟨_,run_beginRound h1 rfl,wpIn_mono h2 ?_⟩
  intro e a3 W3 hp
  obtain⟨h3,h4⟩:=hp
  cases e with
  | normal=>exact⟨_,_,run_endRound (P:=P) none h3,h4⟩
  | ret=>exact⟨_,_,run_endRound (P:=P) (some .ret) h3,h4⟩
  | exit id=>exact⟨_,_,run_endRound (P:=P) (some (.exit id)) h3,h4⟩
  | goto t=>exact⟨_,_,run_endRound (P:=P) (some (.goto t)) h3,h4⟩
  | panic c=>exact h4.elim
  | outgrown=>exact h4.elim
 | exit id=>exact hq.elim
 | goto t=>exact hq.elim
 | ret=>exact hq.elim
 | panic c=>exact hq.elim
 | outgrown=>exact hq.elim
theorem calls_of_marks{n:Nat}{f:FuncId}{fn:Func}{c:Code}{args:Array Value}{w:World}{R:Ending→World→Prop}
  (hf:P.funcs[f]? =some fn) (hb:fn.body=some c)
  (h:c.wp P (bodyPostM Fence.wide n P fn R) {tmps:=args++Array.replicate (fn.ntmps - args.size) undef,defers:=[]} w):Calls P f args w R:=
 callsIn_wide.1 (callsIn_of_wp_marks (n:=n) hf hb trivial (wpIn_wide.2 h))
end Go.Proofs.YtknelogmocedeaaGreatDoor.Rng
