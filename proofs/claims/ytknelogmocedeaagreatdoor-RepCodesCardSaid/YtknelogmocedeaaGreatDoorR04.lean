/- The walk without memory is right: the operations that leave the world alone. Whatever program. -/
import Derived.Test.YtknelogmocedeaaGreatDoorR03
import Derived.WalkKit
import Derived.Laws.StructEq
import Derived.Laws.BytesString
import Derived.MapKept
namespace Go.Proofs.YtknelogmocedeaaGreatDoor
open Go.RowKit
set_option linter.unusedVariables false
variable {P : Program} {X : En} {base N : Nat} {S : Nat → Prop} {tb : Tab} {C : Con}
def Ran(P:Program)(X:En)(base:Nat)(S:Nat→Prop)(N:Nat)(st:St)(o:Oper)(a:Act)(w:World)(g:Gh)(K:T→St→Prop):Prop:=
 ∃nx v w' t st' g',(execOp a.eval o).run P w=.ok nx w'∧(nx=.value v∨(nx=.skip∧v=undef))∧K t st'∧RepT P w' g' t v∧Hd P X base S st' a w' g'∧Stp X base S N w g w' g'∧TameB (bad o a) w g st.lv w' g' st'.lv
def RanQ(P:Program)(st:St)(o:Oper)(a:Act)(w:World)(g:Gh)(K:T→St→Prop):Prop:=
 ∃v t,∃cells:List ((Nat×Nat)×Value),(∀p∈cells,Safe w g st.lv p.1.1 p.1.2∧w.cell? ⟨p.1.1,p.1.2,none⟩=some p.2)∧(∀W:World,(∀p∈cells,W.cell? ⟨p.1.1,p.1.2,none⟩=some p.2)→(execOp a.eval o).run P W=.ok (.value v) W)∧RepT P w g t v∧K t st∧(cells≠[]→Op.isLoad o.op=true)∧(∀p∈cells,∀t x,o.op=.load t x→∃q,a.eval x=.pointer (some ⟨p.1.1,q,none⟩))∧∀t x cs,o.op=.load t x→st.ev x=.ro cs→∀p∈cells,g.L p.1.1 p.1.2
theorem RanQ.ran {st:St}{o:Oper}{a:Act}{w:World}{g:Gh}{K:T→St→Prop}(h:RanQ P st o a w g K)(hd:Hd P X base S st a w g):Ran P X base S N st o a w g K:=by
 obtain⟨v,t,cells,h1,h2,h3,h4,_,_⟩:=h
 exact⟨_,v,w,t,st,g,h2 w (fun p hp=>(h1 p hp).2),.inl rfl,h4,h3,hd,Stp.refl _ _ _ _ _ _,(Tame.refl _ _ _).b⟩
theorem ranq{o:Oper}{a:Act}{w:World}{g:Gh}{K:T→St→Prop}{st:St}{v:Value}{t:T}(hd:Hd P X base S st a w g)(hr:∀W:World,(execOp a.eval o).run P W=.ok (.value v) W)(rt:RepT P w g t v)(hk:K t st):RanQ P st o a w g K:=
 ⟨v,t,[],fun p hp=>(by cases hp),fun W _=>hr W,rt,hk,fun h=>absurd rfl h,fun p hp=>(by cases hp),fun _ _ _ _ _ p hp=>(by cases hp)⟩
theorem run_sizeOf'{t:TypeId}(h:(P.info? t).isSome=true)(w:World):(sizeOf t).run P w=.ok (P.cellsOf t) w:=by
 obtain⟨i,hi⟩:=Option.isSome_iff_exists.1 h
 simp[sizeOf,typeInfo,hi,Program.cellsOf]
theorem run_isAgg'{t:TypeId}(h:(P.underlying t).isSome=true)(w:World):(isAgg t).run P w=.ok (aggB P t) w:=by
 obtain⟨d,hd⟩:=Option.isSome_iff_exists.1 h
 unfold isAgg aggB
 simp only[Sem.run_bind,run_underlying hd,Result.andThen_ok,hd]
 cases d <;> rfl
theorem run_loadVar_agg{t:TypeId}{b o:Nat}{cs:List Value}{w:World}(h1:(P.info? t).isSome=true)(h2:(P.underlying t).isSome=true)(ha:aggB P t=true)(hn:P.cellsOf t=cs.length)(hc:∀i u,cs[i]? =some u→w.cell? ⟨b,o+i,none⟩=some u):
  (loadVar t ⟨b,o,none⟩).run P w=.ok (.agg cs.toArray) w:=by
 have hl:(loadCells ⟨b,o,none⟩ cs.length).run P w=.ok cs.toArray w:=
  run_loadCells_list (P:=P) w ⟨b,o,none⟩ cs (fun j v hv=>by rw[Addr.add_mid];exact hc j v hv)
 unfold loadVar
 simp only[Sem.run_bind,run_isAgg' h2,Result.andThen_ok,ha,if_true,run_sizeOf' h1,hn,hl]
 rfl
theorem run_loadVar_one{t:TypeId}{a:Addr}{u:Value}{w:World}(h2:(P.underlying t).isSome=true)(ha:aggB P t=false)(hc:w.cell? a=some u):(loadVar t a).run P w=.ok u w:=by
 unfold loadVar
 simp only[Sem.run_bind,run_isAgg' h2,Result.andThen_ok,ha]
 simp[hc]
theorem toVs_rep{w:World}{g:Gh}:∀{l:List T} {xs:List V} {us:List Value},toVs l=some xs→us.length=l.length→(∀(i:Nat) (t:T),l[i]? =some t→∃u,us[i]? =some u∧RepT P w g t u∧u.oneCell'=true)→RepL w g.L xs us
 | [],xs,us,h,hl,_=>by
  cases h
  rw[List.length_nil] at hl
  exact List.eq_nil_of_length_eq_zero hl
 | t :: r, xs, us, h, hl, hc => by
  unfold toVs at h
  split at h
  ·rename_i x hx
   split at h
   ·rename_i ys hys
    cases h
    obtain⟨u,us,rfl⟩:∃u us',us=u::us':=by cases us with
     | nil=>simp at hl
     | cons u us=>exact⟨u,us,rfl⟩
    obtain⟨u0,e0,r0,h1⟩:=hc 0 t rfl
    simp at e0;subst e0
    have hr:=toV_rep r0 hx
    refine⟨u,us,rfl,?_,hr,toVs_rep hys (by simpa using hl) fun i t' ht=>?_⟩
    ·cases x with
     | agg l=>obtain⟨cs,rfl,_⟩:=hr;cases h1
     | raw v=>rw[show _=_ from hr] at h1;exact h1
     | _=>rfl
    ·obtain⟨z,hz,h2,h3⟩:=hc (i+1) t' (by simpa using ht)
     exact⟨z,by simpa using hz,h2,h3⟩
   ·cases h
  ·cases h
theorem Mm.vals {w:World}{g:Gh}{bs:List (Nat×List T)}{lv:List (Nat×Option Nat)}(h:Mm P X base S w g bs lv){i:Nat}{cs:List T}(hi:lk i bs=some cs):∃us:List Value,us.length=cs.length∧(∀(j:Nat) (c:T),cs[j]? =some c→∃u,us[j]? =some u∧RepT P w g c u∧u.oneCell'=true)∧∀(j:Nat) (u:Value),us[j]? =some u→w.cell? ⟨(g.ρ i).1,(g.ρ i).2+j,none⟩=some u:=by
 have hch:∀j:Fin cs.length,∃u,w.cell? ⟨(g.ρ i).1,(g.ρ i).2+j,none⟩=some u∧RepT P w g cs[j] u∧u.oneCell'=true:=fun j=>h.box hi (List.getElem?_eq_getElem j.2)
 refine⟨List.ofFn fun j=>(hch j).choose,by simp,fun j c hj=>?_,fun j u hu=>?_⟩
 ·obtain⟨hlt,rfl⟩:=List.getElem?_eq_some_iff.1 hj
  have:=(hch ⟨j,hlt⟩).choose_spec
  exact⟨_,by rw[List.getElem?_ofFn,dif_pos hlt],this.2⟩
 ·rw[List.getElem?_ofFn] at hu
  split at hu
  ·rename_i hlt
   cases hu
   exact(hch ⟨j,hlt⟩).choose_spec.1
  ·cases hu
def cellsL(b o:Nat)(us:List Value):List ((Nat×Nat)×Value):=us.zipIdx.map fun p=>((b,o+p.2),p.1)
theorem mem_cellsL{b o:Nat}{us:List Value}{p:(Nat×Nat)×Value}(h:p∈cellsL b o us):∃i u,us[i]? =some u∧p=((b,o+i),u):=by
 obtain⟨⟨u,i⟩,h1,rfl⟩:=List.mem_map.1 h
 exact⟨i,u,List.mk_mem_zipIdx_iff_getElem?.1 h1,rfl⟩
theorem cellsL_mem{b o i:Nat}{us:List Value}{u:Value}(h:us[i]? =some u):((b,o+i),u)∈cellsL b o us:=
 List.mem_map.2 ⟨(u,i),List.mk_mem_zipIdx_iff_getElem?.2 h,rfl⟩
theorem ranq_load{o:Oper}{a:Act}{w:World}{g:Gh}{K:T→St→Prop}{st:St}{v:Value}{t:T}{b of:Nat}(us:List Value)(hl:Op.isLoad o.op=true)(hx:∀t x,o.op=.load t x→∃q,a.eval x=.pointer (some ⟨b,q,none⟩))(hro:∀t x cs,o.op=.load t x→st.ev x=.ro cs→∀(j:Nat) (u:Value),us[j]? =some u→g.L b (of+j))(hd:Hd P X base S st a w g)(hb:∀(j:Nat) (u:Value),us[j]? =some u→Safe w g st.lv b (of+j)∧w.cell? ⟨b,of+j,none⟩=some u)(hr:∀W:World,(∀(j:Nat) (u:Value),us[j]? =some u→W.cell? ⟨b,of+j,none⟩=some u)→(execOp a.eval o).run P W=.ok (.value v) W)(rt:RepT P w g t v)(hk:K t st):RanQ P st o a w g K:=
 ⟨v,t,cellsL b of us,fun p hp=>(by obtain⟨i,u,h1,rfl⟩:=mem_cellsL hp;exact hb i u h1),fun W hW=>hr W fun j u hj=>hW _ (cellsL_mem hj),rt,hk,fun _=>hl,fun p hp=>(by obtain⟨i,u,h1,rfl⟩:=mem_cellsL hp;exact hx),fun t x cs h1 h2 p hp=>(by obtain⟨i,u,h3,rfl⟩:=mem_cellsL hp;exact hro t x cs h1 h2 i u h3)⟩
theorem Mm.safe {w:World}{g:Gh}{bs:List (Nat×List T)}{lv:List (Nat×Option Nat)}(h:Mm P X base S w g bs lv){i:Nat}(hi:isK bs i)(o:Nat):Safe w g lv (g.ρ i).1 o:=
 ⟨h.lt hi,.inr fun k e hk hb=>by obtain⟨n,vals,o1,o2⟩:=h.own hk;exact(o2 _ hb).2 i hi rfl⟩
theorem ran_load(hT:TabOk P tb)(hC:ConOk X C){o:Oper}{t:TypeId}{x:Operand}(ho:o.op=.load t x){a:Act}{w:World}{g:Gh}{st:St}{K:T→St→Prop}(hd:Hd P X base S st a w g)(hs:semOp tb C o st K):RanQ P st o a w g K:=by
 unfold semOp at hs
 rw[ho] at hs
 dsimp only at hs
 split at hs <;> try exact hs.elim
 rename_i q hq
 obtain⟨s1,s2,s3,s4,s5,s6⟩:=hT.siz hq
 have hev:=hd.ev x
 split at hs <;> try exact hs.elim
 ·rename_i i of hx
  rw[hx] at hev
  split at hs <;> try exact hs.elim
  rename_i cs hcs
  obtain⟨us,u1,u2,u3⟩:=hd.mm.vals hcs
  have hK:isK st.bs i:=by unfold isK;rw[hcs];rfl
  split at hs
  ·rename_i hag
   split at hs <;> try exact hs.elim
   rename_i l hl
   split at hs <;> try exact hs.elim
   rename_i hlen
   have hlen':l.length=q.1:=Nat.eq_of_beq_eq_true hlen
   have hrep:RepL w g.L l ((us.drop of).take q.1):=toVs_rep (P:=P) hl (by rw[List.length_take,List.length_drop,List.length_take,List.length_drop,u1]) fun j t' hj=>by
    rw[List.getElem?_take] at hj ⊢
    split at hj
    ·rw[List.getElem?_drop] at hj ⊢
     rw[if_pos (by assumption)]
     exact u2 _ _ hj
    ·cases hj
   have hcl:∀(j:Nat) (u:Value),((us.drop of).take q.1)[j]? =some u→w.cell? ⟨(g.ρ i).1,(g.ρ i).2+of+j,none⟩=some u:=fun j u hu=>by
    rw[List.getElem?_take] at hu
    split at hu
    ·rw[List.getElem?_drop] at hu
     have:=u3 _ u hu
     rwa [Nat.add_assoc]
    ·cases hu
   refine ranq_load ((us.drop of).take q.1) (by rw[ho];rfl) (fun t' x' e=>by rw[ho] at e;cases e;exact⟨_,hev⟩) (fun t' x' cs' e e2=>by rw[ho] at e;cases e;rw[hx] at e2;cases e2) hd (b:=(g.ρ i).1) (of:=(g.ρ i).2+of) (t:=.v (.agg l)) (v:=.agg ((us.drop of).take q.1).toArray) (fun j u hu=>⟨hd.mm.safe hK _,hcl j u hu⟩) (fun W hW=>?_) ⟨_,rfl,by simpa using hrep⟩ hs
   have hev':a.eval x=.pointer (some ⟨(g.ρ i).1,(g.ρ i).2+of,none⟩):=hev
   unfold execOp
   simp only[ho,hev',Instr.loadAt,Instr.sureAddr,Sem.run_bind,Sem.run_pure,Result.andThen_ok]
   rw[run_loadVar_agg s1 s3 (s4.trans hag) (cs:=(us.drop of).take q.1) (by rw[s2,hrep.length,hlen']) hW]
   rfl
  ·rename_i hag
   split at hs <;> try exact hs.elim
   rename_i c hc
   obtain⟨u,hu,hr,_⟩:=u2 _ _ hc
   refine ranq_load [u] (by rw[ho];rfl) (fun t' x' e=>by rw[ho] at e;cases e;exact⟨_,hev⟩) (fun t' x' cs' e e2=>by rw[ho] at e;cases e;rw[hx] at e2;cases e2) hd (b:=(g.ρ i).1) (of:=(g.ρ i).2+of) (t:=c) (v:=u) (fun j z hz=>?_) (fun W hW=>?_) hr hs
   ·cases j with
    | zero=>simp at hz;subst hz;exact⟨hd.mm.safe hK _,u3 _ _ hu⟩
    | succ j=>simp at hz
   have hev':a.eval x=.pointer (some ⟨(g.ρ i).1,(g.ρ i).2+of,none⟩):=hev
   unfold execOp
   simp only[ho,hev',Instr.loadAt,Instr.sureAddr,Sem.run_bind,Sem.run_pure,Result.andThen_ok]
   have hW0:=hW 0 u rfl
   rw[Nat.add_zero] at hW0
   rw[run_loadVar_one s3 (s4.trans hag) hW0]
   rfl
 ·rename_i cs hx
  rw[hx] at hev
  obtain⟨b,of,hev',hrc⟩:=hev
  split at hs
  ·rename_i hag
   split at hs <;> try exact hs.elim
   rename_i hlen
   have hlen':(cs.take q.1).length=q.1:=Nat.eq_of_beq_eq_true hlen
   obtain⟨us,u1,u2,u3⟩:=(hrc.take q.1).vals
   refine ranq_load us (by rw[ho];rfl) (fun t' x' e=>by rw[ho] at e;cases e;exact⟨_,hev'⟩) (fun t' x' cs' e e2 j u hu=>by
    have hj:j < (cs.take q.1).length:=by rw[←u1];exact(List.getElem?_eq_some_iff.1 hu).1
    obtain⟨_,hL,_⟩:=(hrc.take q.1).get (List.getElem?_eq_getElem hj)
    exact hL) hd (b:=b) (of:=of) (t:=.v (.agg (cs.take q.1))) (v:=.agg us.toArray) (fun j u hu=>⟨?_,u3 j u hu⟩) (fun W hW=>?_) ⟨_,rfl,by simpa using u2⟩ hs
   ·have hj:j < (cs.take q.1).length:=by rw[←u1];exact(List.getElem?_eq_some_iff.1 hu).1
    obtain⟨_,hL,_⟩:=(hrc.take q.1).get (List.getElem?_eq_getElem hj)
    exact⟨hd.mm.Llt hL,.inl hL⟩
   unfold execOp
   simp only[ho,hev',Instr.loadAt,Instr.sureAddr,Sem.run_bind,Sem.run_pure,Result.andThen_ok]
   rw[run_loadVar_agg s1 s3 (s4.trans hag) (cs:=us) (by rw[s2,u1,hlen']) hW]
   rfl
  ·rename_i hag
   split at hs <;> try exact hs.elim
   rename_i c r
   obtain⟨⟨u,hL,hc,_,hr⟩,_⟩:=hrc
   refine ranq_load [u] (by rw[ho];rfl) (fun t' x' e=>by rw[ho] at e;cases e;exact⟨_,hev'⟩) (fun t' x' cs' e e2 j z hz=>by
    cases j with
    | zero=>exact hL
    | succ j=>simp at hz) hd (b:=b) (of:=of) (t:=.v c) (v:=u) (fun j z hz=>?_) (fun W hW=>?_) hr hs
   ·cases j with
    | zero=>simp at hz;subst hz;exact⟨⟨hd.mm.Llt hL,.inl hL⟩,hc⟩
    | succ j=>simp at hz
   unfold execOp
   simp only[ho,hev',Instr.loadAt,Instr.sureAddr,Sem.run_bind,Sem.run_pure,Result.andThen_ok]
   have hW0:=hW 0 u rfl
   rw[Nat.add_zero] at hW0
   rw[run_loadVar_one s3 (s4.trans hag) hW0]
   rfl
 ·rename_i hx
  split at hs <;> try exact hs.elim
  rename_i gn
  split at hs <;> try exact hs.elim
  rename_i hag
  obtain⟨v,hv,hk⟩:=hs
  obtain⟨hEb,u,hu,h1,hr⟩:=hC hd.E hv
  refine ranq_load [u] (by rw[ho];rfl) (fun t' x' e=>by rw[ho] at e;cases e;exact⟨0,rfl⟩) (fun t' x' cs' e e2=>by rw[ho] at e;cases e;cases e2) hd (b:=gn) (of:=0) (t:=.v v) (v:=u) (fun j z hz=>?_) (fun W hW=>?_) (hr _) hk
  ·cases j with
   | zero=>simp at hz;subst hz;exact⟨⟨X.lt hd.E hEb,.inr fun k e hk hb=>hd.mm.ownE hk hb hEb⟩,hu⟩
   | succ j=>simp at hz
  unfold execOp
  simp only[ho,Act.eval,Instr.loadAt,Instr.sureAddr,Sem.run_bind,Sem.run_pure,Result.andThen_ok]
  have hW0:=hW 0 u rfl
  rw[run_loadVar_one s3 (s4.trans hag) hW0]
  rfl
theorem fld_at(hT:TabOk P tb){s:TypeId}{fs:List (Nat×Nat×Bool)}(h:lk s tb.fld=some fs){f:Nat}{q:Nat×Nat×Bool}(hf:fs[f]? =some q):∃(fa:Array Field) (fd:Field),P.underlying s=some (.struct fa)∧fa[f]? =some fd∧fd.offset=q.1∧P.cellsOf fd.type=q.2.1∧aggB P fd.type=q.2.2∧(P.info? fd.type).isSome=true∧(P.underlying fd.type).isSome=true∧P.cellsOf fd.type≠0:=by
 obtain⟨fa,h1,h2,h3⟩:=hT.fld h
 rw[←h2,List.getElem?_map] at hf
 obtain⟨fd,hfd,rfl⟩:=Option.map_eq_some_iff.1 hf
 have hm:fd∈fa.toList:=List.mem_of_getElem? hfd
 have:=List.all_eq_true.1 h3 fd hm
 simp only[Bool.and_eq_true,bne_iff_ne,ne_eq] at this
 exact⟨fa,fd,h1,by simpa using hfd,rfl,rfl,rfl,this.1.1,this.1.2,this.2⟩
theorem ran_fieldAddr(hT:TabOk P tb){o:Oper}{s:TypeId}{x:Operand}{f:Nat}(ho:o.op=.fieldAddr s x f){a:Act}{w:World}{g:Gh}{st:St}{K:T→St→Prop}(hd:Hd P X base S st a w g)(hs:semOp tb C o st K):RanQ P st o a w g K:=by
 unfold semOp at hs
 rw[ho] at hs
 dsimp only at hs
 split at hs <;> try exact hs.elim
 rename_i fs hfs
 split at hs <;> try exact hs.elim
 rename_i q hq
 obtain⟨fa,fd,f1,f2,f3,f4,f5,f6,f7,f8⟩:=fld_at hT hfs hq
 have run:∀b of,a.eval x=.pointer (some ⟨b,of,none⟩)→∀W:World,(execOp a.eval o).run P W=.ok (.value (.pointer (some ⟨b,of+q.1,none⟩))) W:=fun b of he=>by
  intro W
  unfold execOp
  simp only[ho,he,Instr.fieldAt,Sem.run_bind,run_underlying f1,Result.andThen_ok,f2,Instr.sureAddr,Sem.run_pure,fieldPlace,run_sizeOf' f6,f8,if_false,Addr.add_mid,f3]
 have hev:=hd.ev x
 split at hs <;> try exact hs.elim
 ·rename_i i of hx
  rw[hx] at hev
  refine ranq hd (run _ _ hev) ?_ hs
  show _=_
  rw[Nat.add_assoc]
 ·rename_i cs hx
  rw[hx] at hev
  obtain⟨b,of,hev',hrc⟩:=hev
  exact ranq hd (t:=.ro (cs.drop q.1)) (run _ _ hev') ⟨b,_,rfl,hrc.drop q.1⟩ hs
theorem ran_indexAddr(hT:TabOk P tb){o:Oper}{t:TypeId}{x ix:Operand}(ho:o.op=.indexAddr t x ix){a:Act}{w:World}{g:Gh}{st:St}{K:T→St→Prop}(hd:Hd P X base S st a w g)(hs:semOp tb C o st K):RanQ P st o a w g K:=by
 unfold semOp at hs
 rw[ho] at hs
 dsimp only at hs
 split at hs <;> try exact hs.elim
 rename_i e he
 split at hs <;> try exact hs.elim
 rename_i q hq
 obtain⟨s1,s2,s3,s4,s5,s6⟩:=hT.siz hq
 split at hs <;> try exact hs.elim
 rename_i xs hx
 split at hs <;> try exact hs.elim
 rename_i n hn
 obtain⟨c,h0,hc,hcl,hk⟩:=hs
 have hev:=toV_rep (hd.ev x) hx
 have hei:a.eval ix=.int .i64 n:=by have:=hd.ev ix;rw[hn] at this;exact this
 obtain⟨A,cap,hv,hle,hne⟩:=hev
 obtain⟨b,of,e',rfl,hre⟩:=hne (by rintro rfl;simp at hc)
 obtain⟨hl,hrc⟩:=hre.get hc
 have hlt:n < (xs.length:Int):=by have:=(List.getElem?_eq_some_iff.1 hc).1;omega
 refine ranq hd (t:=.ro c) (v:=.pointer (some ⟨b,of+n.toNat*e',none⟩)) ?_ ⟨b,_,rfl,hrc⟩ hk
 intro W
 unfold execOp
 simp only[ho,hv,hei,Instr.indexAt,asIntOf,Sem.run_bind,Sem.run_pure,Result.andThen_ok,run_underlying (hT.elt he),h0,hlt,and_self,if_true,run_sizeOf' s1,s2,Addr.add_mid]
 rw[←hcl,hl]
 ·split at hs <;> try exact hs.elim
  rename_i k e' xs hx
  split at hs <;> try exact hs.elim
  rename_i n hn
  obtain⟨rfl,rfl,hk⟩:=hs
  have hev:=hd.ev x
  rw[hx] at hev
  obtain⟨b,c,h1,h2,h3,h4,h5⟩:=hev
  have hei:a.eval ix=.int .i64 (xs.length:Nat):=by have:=hd.ev ix;rw[hn] at this;exact this
  have h0:(0:Int)≤((xs.length:Nat):Int):=by omega
  have hlt:((xs.length:Nat):Int) < ((xs.length+1:Nat):Int):=by omega
  refine ranq hd (t:=.sub k (.el e' xs)) (v:=.pointer (some ⟨b,xs.length*P.cellsOf e',none⟩)) ?_ ⟨b,c,h1,rfl,h3,h4,h5⟩ hk
  intro W
  unfold execOp
  simp only[ho,h2,hei,Instr.indexAt,asIntOf,Sem.run_bind,Sem.run_pure,Result.andThen_ok,run_underlying (hT.elt he),h0,hlt,and_self,if_true,run_sizeOf' s1,s2,Addr.add_mid,Int.toNat_natCast,Nat.zero_add]
theorem ran_move{o:Oper}{x:Operand}(ho:o.op=.move x∨o.op=.assign x){a:Act}{w:World}{g:Gh}{st:St}{K:T→St→Prop}(hd:Hd P X base S st a w g)(hs:semOp tb C o st K):RanQ P st o a w g K:=by
 unfold semOp at hs
 rcases ho with ho | ho <;> rw[ho] at hs <;> exact ranq hd (fun W=>by unfold execOp;simp only[ho];rfl) (hd.ev x) hs
theorem ran_pick{o:Oper}{c x y:Operand}(ho:o.op=.pick c x y){a:Act}{w:World}{g:Gh}{st:St}{K:T→St→Prop}(hd:Hd P X base S st a w g)(hs:semOp tb C o st K):RanQ P st o a w g K:=by
 unfold semOp at hs
 rw[ho] at hs
 dsimp only at hs
 have hc:=hd.ev c
 split at hs <;> try exact hs.elim
 all_goals
  rename_i hq
  rw[hq] at hc
  have hc':a.eval c=.bool _:=hc
 ·exact ranq hd (fun W=>by unfold execOp;simp[ho,hc',asBool]) (hd.ev x) hs
 ·exact ranq hd (fun W=>by unfold execOp;simp[ho,hc',asBool]) (hd.ev y) hs
theorem ran_extract{o:Oper}{x:Operand}{i:Nat}(ho:o.op=.extract x i){a:Act}{w:World}{g:Gh}{st:St}{K:T→St→Prop}(hd:Hd P X base S st a w g)(hs:semOp tb C o st K):RanQ P st o a w g K:=by
 unfold semOp at hs
 rw[ho] at hs
 dsimp only at hs
 have hx:=hd.ev x
 split at hs <;> try exact hs.elim
 rename_i l hl
 split at hs <;> try exact hs.elim
 rename_i t ht
 rw[hl] at hx
 obtain⟨cs,he,hr⟩:=hx
 obtain⟨u,hu,hr'⟩:=hr.get ht
 rw[Array.getElem?_toList] at hu
 exact ranq hd (v:=u) (fun W=>by unfold execOp;simp[ho,he,Instr.extract,hu]) hr' hs
theorem ran_nilCheck{o:Oper}{x:Operand}(ho:o.op=.nilCheck x){a:Act}{w:World}{g:Gh}{st:St}{K:T→St→Prop}(hd:Hd P X base S st a w g)(hs:semOp tb C o st K):RanQ P st o a w g K:=by
 unfold semOp at hs
 rw[ho] at hs
 dsimp only at hs
 have hx:=hd.ev x
 split at hs <;> try exact hs.elim
 ·rename_i i of hl
  rw[hl] at hx
  have hx':a.eval x=.pointer (some ⟨(g.ρ i).1,(g.ρ i).2+of,none⟩):=hx
  exact ranq hd (t:=.ptr i of) (fun W=>by unfold execOp;simp only[ho,hx'];rfl) rfl hs
 ·rename_i cs hl
  rw[hl] at hx
  obtain⟨b,of,he,hr⟩:=hx
  exact ranq hd (t:=.ro cs) (fun W=>by unfold execOp;simp only[ho,he];rfl) ⟨b,of,rfl,hr⟩ hs
theorem ran_makeFunc{o:Oper}{fn:Go.Fn}{first captured:Array Operand}(ho:o.op=.makeFunc fn first captured){a:Act}{w:World}{g:Gh}{st:St}{K:T→St→Prop}(hd:Hd P X base S st a w g)(hs:semOp tb C o st K):RanQ P st o a w g K:=by
 unfold semOp at hs
 rw[ho] at hs
 dsimp only at hs
 split at hs <;> try exact hs.elim
 rename_i f
 split at hs <;> try exact hs.elim
 rename_i hf
 have hf':first=#[]:=by simpa using hf
 subst hf'
 refine ranq hd (t:=.fn f (captured.toList.map st.ev)) (v:=.func (.func f) #[] (captured.map a.eval)) (fun W=>by unfold execOp;simp[ho,Instr.makeFunc]) ⟨_,rfl,?_⟩ hs
 rw[Array.toList_map]
 exact hd.evs _
theorem ran_makeInterface(hT:TabOk P tb){o:Oper}{t:TypeId}{x:Operand}(ho:o.op=.makeInterface t x){a:Act}{w:World}{g:Gh}{st:St}{K:T→St→Prop}(hd:Hd P X base S st a w g)(hs:semOp tb C o st K):RanQ P st o a w g K:=by
 unfold semOp at hs
 rw[ho] at hs
 dsimp only at hs
 split at hs <;> try exact hs.elim
 rename_i hc
 split at hs <;> try exact hs.elim
 rename_i y hy
 obtain⟨d,h1,h2⟩:=hT.conF hc
 refine ranq hd (t:=.v (.ifc t y)) (v:=.iface t (a.eval x)) ?_ ⟨_,rfl,toV_rep (hd.ev x) hy⟩ hs
 intro W
 unfold execOp
 simp only[ho,Instr.makeInterface,Sem.run_bind,run_underlying h1,Result.andThen_ok]
 cases d <;> first | rfl | exact absurd rfl (h2 _)
theorem ran_unOp{o:Oper}{op:UnOp}{t:TypeId}{x:Operand}(ho:o.op=.unOp op t x){a:Act}{w:World}{g:Gh}{st:St}{K:T→St→Prop}(hd:Hd P X base S st a w g)(hs:semOp tb C o st K):RanQ P st o a w g K:=by
 unfold semOp at hs
 rw[ho] at hs
 dsimp only at hs
 have hx:=hd.ev x
 split at hs <;> try exact hs.elim
 ·rename_i q hq
  rw[hq] at hx
  have hx':a.eval x=.bool q:=hx
  exact ranq hd (t:=.v (.bool (!q))) (fun W=>by unfold execOp;simp only[ho,hx'];rfl) rfl hs
 ·rename_i k n hq
  rw[hq] at hx
  have hx':a.eval x=.int k n:=hx
  obtain⟨z,rfl,hK⟩:=hs
  exact ranq hd (t:=.v (.int k (k.wrap (0 - n)))) (fun W=>by unfold execOp;simp only[ho,hx'];rfl) rfl hK
theorem bytesV_spec:∀{xs:List (List V)} {l:List UInt8},bytesV xs=some l→∃ns:List Int,xs=ns.map (fun n=>[V.int .u8 n])∧l=ns.map fun n=>UInt8.ofNat n.toNat
 | [],l,h=>⟨[],rfl,(Option.some.inj h).symm⟩
 | c::r,l,h=>by
  unfold bytesV at h
  split at h
  ·rename_i e;cases e
  ·rename_i n r' e
   cases e
   split at h
   ·rename_i m hm
    obtain⟨ns,rfl,rfl⟩:=bytesV_spec hm
    cases h
    exact⟨n::ns,rfl,rfl⟩
   ·cases h
  ·cases h
theorem fold_bytes:∀(ns:List Int) (s:ByteArray),ns.foldl (fun r n=>r.push (UInt8.ofNat n.toNat)) s=⟨s.data++(ns.map fun n=>UInt8.ofNat n.toNat).toArray⟩
 | [],s=>by simp
 | n::ns,s=>by
  rw[List.foldl_cons,fold_bytes ns]
  obtain⟨d⟩:=s
  show(⟨(d.push _)++_⟩:ByteArray)=_
  congr 1
  apply Array.toList_inj.1
  simp
theorem fold_bytes0(ns:List Int):ns.foldl (fun r n=>r.push (UInt8.ofNat n.toNat)) ByteArray.empty=⟨(ns.map fun n=>UInt8.ofNat n.toNat).toArray⟩:=by
 rw[fold_bytes]
 show(⟨#[]++_⟩:ByteArray)=_
 rw[Array.empty_append]
theorem ran_convert(hT:TabOk P tb){o:Oper}{s t:TypeId}{x:Operand}(hqs:bysB t=false)(ho:o.op=.convert s t x){a:Act}{w:World}{g:Gh}{st:St}{K:T→St→Prop}(hd:Hd P X base S st a w g)(hs:semOp tb C o st K):RanQ P st o a w g K:=by
 unfold semOp at hs
 rw[ho] at hs
 dsimp only at hs
 have hx:=hd.ev x
 split at hs
 ·rename_i k hk
  split at hs <;> try exact hs.elim
  rename_i k' hk'
  split at hs <;> try exact hs.elim
  rename_i ks y hy
  obtain⟨n,rfl,hK⟩:=hs
  rw[hy] at hx
  have hx':a.eval x=.int ks y:=hx
  refine ranq hd (t:=.v (.int k (k.wrap y))) ?_ rfl hK
  intro W
  unfold execOp
  simp only[ho,hx',convert,Sem.run_bind,run_underlying (hT.ints hk),run_underlying (hT.ints hk'),Result.andThen_ok]
  rfl
 ·rw [hqs] at hs
  dsimp only at hs
  split at hs <;> try exact hs.elim
  rename_i hst
  split at hs <;> try exact hs.elim
  rename_i e he
  split at hs <;> try exact hs.elim
  rename_i h8
  have hu1:=hT.elt he
  have hu2:=hT.ints h8
  have hu3:=hT.str (t:=t) (by rw[hst];rfl)
  have nul:a.eval x=.slice none 0 0→K (.v (.str ⟨#[]⟩)) st→RanQ P st o a w g K:=fun hx' hK=>by
   refine ranq hd (t:=.v (.str ⟨#[]⟩)) (v:=.string ⟨#[]⟩) ?_ rfl hK
   intro W
   unfold execOp
   simp only[ho,hx',Sem.run_bind,run_convert_bytes_string W s t e none 0 0 hu1 hu2 hu3]
   rfl
  split at hs <;> try exact hs.elim
  ·rename_i xs hv
   obtain⟨l,hl,hK⟩:=hs
   obtain⟨ns,rfl,rfl⟩:=bytesV_spec hl
   obtain⟨A,cap,he1,hcap,hre⟩:=toV_rep (hd.ev x) hv
   by_cases hn:ns=[]
   ·subst hn
    have hrun:∀W:World,(Conv.bytesToString (.slice A 0 cap)).run P W=.ok (.string ⟨#[]⟩) W:=fun W=>by
     cases A with
     | none=>rfl
     | some A=>
      have:=run_bytesToString (P:=P) W A 0 cap [] (by have:=run_loadCells_list (P:=P) W A [] (fun j v h=>by simp at h);simpa using this)
      exact this
    refine ranq hd (t:=.v (.str ⟨#[]⟩)) (v:=.string ⟨#[]⟩) ?_ rfl (by simpa using hK)
    intro W
    unfold execOp
    simp only[ho,he1,List.map_nil,List.length_nil,Sem.run_bind,run_convert_bytes_string W s t e A 0 cap hu1 hu2 hu3,hrun,Result.andThen_ok]
    rfl
   ·obtain⟨b,of,e',rfl,hE⟩:=hre (by simpa using hn)
    have hcell:∀(j:Nat) (u:Value),(ns.map (Value.int .u8))[j]? =some u→Safe w g st.lv b (of+j)∧w.cell? ⟨b,of+j,none⟩=some u:=fun j u hj=>by
     rw[List.getElem?_map] at hj
     obtain⟨n,hn',rfl⟩:=Option.map_eq_some_iff.1 hj
     obtain⟨k1,k2⟩:=hE.get (i:=j) (c:=[V.int .u8 n]) (by rw[List.getElem?_map,hn'];rfl)
     have k3:e'=1:=k1.symm
     subst k3
     rw[Nat.mul_one] at k2
     obtain⟨⟨u',q1,q2,_,q4⟩,_⟩:=k2
     rw[show u'=_ from q4] at q2
     exact⟨⟨World.block_lt_of_cell? w _ q2,.inl q1⟩,q2⟩
    refine ranq_load (ns.map (Value.int .u8)) (by rw[ho];rfl) (fun t' x' e=>by rw[ho] at e;cases e) (fun t' x' cs' e e2=>by rw[ho] at e;cases e) hd hcell (v:=.string ⟨(ns.map fun n:Int=>UInt8.ofNat n.toNat).toArray⟩) (t:=.v (.str ⟨(ns.map fun n:Int=>UInt8.ofNat n.toNat).toArray⟩)) ?_ rfl hK
    intro W hW
    have hl':(loadCells ⟨b,of,none⟩ (ns.map (Value.int .u8)).length).run P W=.ok (ns.map (Value.int .u8)).toArray W:=
     run_loadCells_list (P:=P) W ⟨b,of,none⟩ _ (fun j v hv=>by rw[Addr.add_mid];exact hW j v hv)
    have hrun:=run_bytesToString (P:=P) W ⟨b,of,none⟩ (ns.map (Value.int .u8)).length cap ns hl'
    rw[fold_bytes0] at hrun
    unfold execOp
    rw[List.length_map] at he1 hrun
    simp only[ho,he1,Sem.run_bind,run_convert_bytes_string W s t e _ _ cap hu1 hu2 hu3,hrun,Result.andThen_ok]
    rfl
  ·rename_i hv
   exact nul (toV_rep (hd.ev x) hv) hs
theorem ran_field(hT:TabOk P tb){o:Oper}{s:TypeId}{x:Operand}{f:Nat}(ho:o.op=.field s x f){a:Act}{w:World}{g:Gh}{st:St}{K:T→St→Prop}(hd:Hd P X base S st a w g)(hs:semOp tb C o st K):RanQ P st o a w g K:=by
 unfold semOp at hs
 rw[ho] at hs
 dsimp only at hs
 split at hs <;> try exact hs.elim
 rename_i fs hfs
 split at hs <;> try exact hs.elim
 rename_i q hq
 obtain⟨fa,fd,f1,f2,f3,f4,f5,f6,f7,f8⟩:=fld_at hT hfs hq
 split at hs <;> try exact hs.elim
 rename_i l hl
 obtain⟨cs,hv,hr⟩:=toV_rep (hd.ev x) hl
 split at hs
 ·rename_i hag
  split at hs <;> try exact hs.elim
  rename_i hlen
  have hlen':=Nat.eq_of_beq_eq_true hlen
  refine ranq hd (t:=.v (.agg ((l.drop q.1).take q.2.1))) (v:=.agg (cs.extract q.1 (q.1+q.2.1))) ?_ ⟨_,rfl,?_⟩ hs
  ·intro W
   unfold execOp
   simp only[ho,hv,Instr.field,Sem.run_bind,run_underlying f1,Result.andThen_ok,f2,asAgg,Sem.run_pure,part,run_isAgg' f7,f5,hag,if_true,run_sizeOf' f6,f3,f4]
  ·have:=(hr.drop q.1).take q.2.1
   rwa [Array.toList_extract,List.extract_eq_take_drop,Nat.add_sub_cancel_left]
 ·rename_i hag
  split at hs <;> try exact hs.elim
  rename_i y hy
  obtain⟨u,hu,_,hr'⟩:=hr.get hy
  rw[Array.getElem?_toList] at hu
  refine ranq hd (t:=.v y) (v:=u) ?_ hr' hs
  intro W
  unfold execOp
  simp only[ho,hv,Instr.field,Sem.run_bind,run_underlying f1,Result.andThen_ok,f2,asAgg,Sem.run_pure,part,run_isAgg' f7,f5,hag,f3,hu,if_false,Bool.false_eq_true]
theorem ran_index(hT:TabOk P tb){o:Oper}{t:TypeId}{x ix:Operand}(ho:o.op=.index t x ix){a:Act}{w:World}{g:Gh}{st:St}{K:T→St→Prop}(hd:Hd P X base S st a w g)(hs:semOp tb C o st K):RanQ P st o a w g K:=by
 unfold semOp at hs
 rw[ho] at hs
 dsimp only at hs
 split at hs <;> try exact hs.elim
 rename_i hst
 have hx:=hd.ev x
 have hi:=hd.ev ix
 split at hs <;> try exact hs.elim
 rename_i s hsx
 split at hs <;> try exact hs.elim
 rename_i n hn
 obtain⟨c,h0,hc,hK⟩:=hs
 rw[hsx] at hx
 rw[hn] at hi
 have hx':a.eval x=.string s:=hx
 have hi':a.eval ix=.int .i64 n:=hi
 have hu:=hT.str (t:=t) (by rw[hst];rfl)
 have hc':s[n.toNat]? =some c:=by
  obtain⟨hlt,e⟩:=List.getElem?_eq_some_iff.1 hc
  rw[Array.length_toList] at hlt
  rw[getElem?_pos s n.toNat hlt,←e]
  rfl
 refine ranq hd (t:=.v (.int .u8 c.toNat)) ?_ rfl hK
 intro W
 unfold execOp
 simp only[ho,hx',hi',Instr.index,asIntOf,Sem.run_bind,Sem.run_pure,Result.andThen_ok,run_underlying hu,h0,if_true,hc']
theorem ran_len(hT:TabOk P tb){o:Oper}{c:Call}(ho:o.op=.call c)(hb:c.callee=.builtin .len){a:Act}{w:World}{g:Gh}{st:St}{K:T→St→Prop}(hd:Hd P X base S st a w g)(hs:semOp tb C o st K):RanQ P st o a w g K:=by
 unfold semOp at hs
 rw[ho] at hs
 dsimp only at hs
 rw[hb] at hs
 dsimp only at hs
 split at hs <;> try exact hs.elim
 rename_i x t hx ht
 have hx':c.args=#[x]:=by rw[←Array.toArray_toList (xs:=c.args),hx]
 have ht':c.argTypes=#[t]:=by rw[←Array.toArray_toList (xs:=c.argTypes),ht]
 split at hs <;> try exact hs.elim
 all_goals
  rename_i hv
  split at hs <;> try exact hs.elim
  rename_i hl
  have hr:=toV_rep (hd.ev x) hv
 ·have hr':a.eval x=.string _:=hr
  refine ranq hd (t:=.v (.int .i64 _)) (v:=.int .i64 _) ?_ rfl hs
  intro W
  unfold execOp
  simp[ho,resolve,hb,hx',ht',invoke,builtin,Builtin.len_,run_underlying (hT.str (t:=t) (by rw[hl];rfl)),hr',goInt]
 ·obtain⟨A,cap,hr',_⟩:=hr
  refine ranq hd (t:=.v (.int .i64 _)) (v:=.int .i64 _) ?_ rfl hs
  intro W
  unfold execOp
  simp[ho,resolve,hb,hx',ht',invoke,builtin,Builtin.len_,run_underlying (hT.elt hl),hr',goInt]
 ·have hr':a.eval x=.slice none 0 0:=hr
  refine ranq hd (t:=.v (.int .i64 0)) (v:=.int .i64 0) ?_ rfl hs
  intro W
  unfold execOp
  simp[ho,resolve,hb,hx',ht',invoke,builtin,Builtin.len_,run_underlying (hT.elt hl),hr',goInt]
 ·have hr':a.eval x=.slice _ _ _:=hr
  refine ranq hd (t:=.v (.int .i64 _)) (v:=.int .i64 _) ?_ rfl hs
  intro W
  unfold execOp
  simp[ho,resolve,hb,hx',ht',invoke,builtin,Builtin.len_,run_underlying (hT.elt hl),hr',goInt]
theorem ran_min{o:Oper}{c:Call}(ho:o.op=.call c)(hb:c.callee=.builtin .min){a:Act}{w:World}{g:Gh}{st:St}{K:T→St→Prop}(hd:Hd P X base S st a w g)(hs:semOp tb C o st K):RanQ P st o a w g K:=by
 unfold semOp at hs
 rw[ho] at hs
 dsimp only at hs
 rw[hb] at hs
 dsimp only at hs
 split at hs <;> try exact hs.elim
 rename_i x y hx
 have hx':c.args=#[x,y]:=by rw[←Array.toArray_toList (xs:=c.args),hx]
 have h1:=hd.ev x
 have h2:=hd.ev y
 split at hs <;> try exact hs.elim
 rename_i k p k' q e1 e2
 obtain⟨n,rfl,hK⟩:=hs
 rw[e1] at h1
 rw[e2] at h2
 have h1':a.eval x=.int k p:=h1
 have h2':a.eval y=.int k' q:=h2
 refine ranq hd (t:=.v (.int k _)) ?_ rfl hK
 intro W
 unfold execOp
 simp[ho,resolve,hb,hx',invoke,builtin,Builtin.min_,Builtin.min2,h1',h2']
theorem ran_max{o:Oper}{c:Call}(ho:o.op=.call c)(hb:c.callee=.builtin .max){a:Act}{w:World}{g:Gh}{st:St}{K:T→St→Prop}(hd:Hd P X base S st a w g)(hs:semOp tb C o st K):RanQ P st o a w g K:=by
 unfold semOp at hs
 rw[ho] at hs
 dsimp only at hs
 rw[hb] at hs
 dsimp only at hs
 split at hs <;> try exact hs.elim
 rename_i x y hx
 have hx':c.args=#[x,y]:=by rw[←Array.toArray_toList (xs:=c.args),hx]
 have h1:=hd.ev x
 have h2:=hd.ev y
 split at hs <;> try exact hs.elim
 rename_i k p k' q e1 e2
 obtain⟨n,rfl,hK⟩:=hs
 rw[e1] at h1
 rw[e2] at h2
 have h1':a.eval x=.int k p:=h1
 have h2':a.eval y=.int k' q:=h2
 refine ranq hd (t:=.v (.int k _)) ?_ rfl hK
 intro W
 unfold execOp
 simp[ho,resolve,hb,hx',invoke,builtin,Builtin.max_,Builtin.max2,h1',h2']
theorem bytes_eq(a b:ByteArray):(a.toList==b.toList)=decide (a=b):=by
 rw[Bool.eq_iff_iff,beq_iff_eq,decide_eq_true_iff,ByteArray.toList_eq,ByteArray.toList_eq]
 exact⟨fun h=>by cases a;cases b;congr 1;exact Array.toList_inj.1 h,fun h=>by rw[h]⟩
theorem binS_run(op:BinOp)(x y:V)(t:TypeId){w:World}{L:Lv}{u v:Value}(h1:Rep w L x u)(h2:Rep w L y v){K:V→Prop}(hs:binS op x y K):∃z,(∀W:World,(binOp op t u v).run P W=.ok (zv z) W)∧Rep w L z (zv z)∧K z:=by
  unfold binS at hs
  split at hs <;> try exact hs.elim
  all_goals
    have h1':u=_:=h1
    have h2':v=_:=h2
    subst h1' h2'
  · obtain⟨rfl,n,rfl,hK⟩:=hs
    exact⟨.int _ _,fun W=>by simp[binOp,Op.intArith];rfl,rfl,hK⟩
  · obtain⟨rfl,n,rfl,hK⟩:=hs
    exact⟨.int _ _,fun W=>by simp[binOp,Op.intArith];rfl,rfl,hK⟩
  · obtain⟨rfl,n,rfl,hK⟩:=hs
    exact⟨.int _ _,fun W=>by simp[binOp,Op.intArith];rfl,rfl,hK⟩
  · obtain⟨rfl,hb,n,rfl,hK⟩:=hs
    exact⟨.int _ _,fun W=>by simp[binOp,Op.intDiv,hb];rfl,rfl,hK⟩
  · obtain⟨rfl,hb,n,rfl,hK⟩:=hs
    exact⟨.int _ _,fun W=>by simp[binOp,Op.intDiv,hb];rfl,rfl,hK⟩
  · obtain⟨rfl,n,rfl,hK⟩:=hs
    exact⟨.int _ _,fun W=>by simp[binOp,Op.intBits];rfl,rfl,hK⟩
  · obtain⟨rfl,n,rfl,hK⟩:=hs
    exact⟨.int _ _,fun W=>by simp[binOp,Op.intBits];rfl,rfl,hK⟩
  · obtain⟨hb,n,rfl,hK⟩:=hs
    exact⟨.int _ _,fun W=>by simp only[binOp,Op.shift,if_neg (Int.not_lt.2 hb)];rfl,rfl,hK⟩
  · obtain⟨hb,n,rfl,hK⟩:=hs
    exact⟨.int _ _,fun W=>by simp only[binOp,Op.shift,if_neg (Int.not_lt.2 hb)];rfl,rfl,hK⟩
  all_goals first
    | (obtain⟨rfl,hq⟩:=hs
       exact⟨.bool _,fun W=>by simp[binOp,Op.intCmp];rfl,rfl,hq _ (by simp)⟩)
    | skip
  · obtain⟨hsz,s,rfl,hK⟩:=hs
    refine⟨.str _,?_,rfl,hK⟩
    have hm:IntKind.i64.max=9223372036854775807:=by decide
    have:∀n:Nat,n≤9223372036854775807→¬((n:Int) > IntKind.i64.max):=fun n h=>by rw[hm];omega
    intro W
    simp only[binOp,Op.stringOp,this _ hsz,if_false]
    rfl
  · exact⟨.bool _,fun W=>by simp[binOp,Op.stringOp,bytes_eq];rfl,rfl,hs _ (by simp)⟩
  · exact⟨.bool _,fun W=>by simp[binOp,Op.stringOp,bytes_eq];rfl,rfl,hs _ (by simp)⟩
theorem zval_rep{w:World}{L:Lv}{z:V}(h:zvok z=true):Rep w L z (zval z):=by
 have zl:∀{z:List V},z.all zok=true→RepL w L z (z.map zv):=by
  intro z
  induction z with
  | nil=>intro _;rfl
  | cons x r ih=>
   intro h
   rw[List.all_cons,Bool.and_eq_true] at h
   exact⟨_,_,rfl,by cases x <;> first | rfl | exact h.1 | (cases h.1),by cases x <;> first | rfl | (cases h.1),ih h.2⟩
 cases z with
 | agg l=>exact⟨_,rfl,by rw[List.toList_toArray];exact zl h⟩
 | _=>first | rfl | cases h
theorem find_run{w:World}{L:Lv}{kd:Option IntKind}{k:V}{u:Value}(hk:keyOk kd k=true)(hu:Rep w L k u):∀(ks vs:List V) (es:List MapEntry) (i:Nat),ks.all (keyOk kd)=true→ks.length=vs.length→RepW w L ks (es.map (·.key))→RepW w L vs (es.map (·.val))→
  ∃r,Instr.findNow (match kd with | some d=>.int d | none=>.string) u es i=some r∧match mget k ks vs with
   | some v=>∃j x,r=some (j,x)∧Rep w L v x
   | none=>r=none
 | [],[],es,i,_,_,h1,_=>by
  obtain rfl:es=[]:=by simpa using (show es.map (·.key)=[] from h1)
  refine⟨none,rfl,?_⟩
  cases k <;> rfl
 | [],_::_,_,_,_,h,_,_=>by cases h
 | _::_,[],_,_,_,h,_,_=>by cases h
 | k' :: ks, v :: vs, es, i, hks, hl, ⟨a, as', e1, r1, rs1⟩, ⟨b, bs', e2, r2, rs2⟩ => by
  cases es with
  | nil=>cases e1
  | cons x es=>
   rw[List.map_cons] at e1 e2
   injection e1 with e1 e1'
   injection e2 with e2 e2'
   rw[List.all_cons,Bool.and_eq_true] at hks
   obtain⟨r,hr,hm⟩:=find_run hk hu ks vs es (i+1) hks.2 (by simpa using hl) (by rw[e1'];exact rs1) (by rw[e2'];exact rs2)
   cases kd with
   | some d=>
    cases k <;> first | (cases hk;done) | skip
    cases k' <;> first | (cases hks.1;done) | skip
    rename_i q n q' m
    have hq:q=d:=by simpa [keyOk] using hk
    have hq':q'=d:=by simpa [keyOk] using hks.1
    subst hq;subst hq'
    rw[show u=_ from hu] at hr ⊢
    rw[show a=_ from r1] at e1
    unfold Instr.findNow
    simp only[e1,Instr.sameNow,if_true]
    by_cases hnm:n=m
    ·subst hnm
     refine⟨some (i,x.val),by simp,?_⟩
     simp only[mget,if_true]
     exact⟨i,x.val,rfl,by rw[e2];exact r2⟩
    ·refine⟨r,by rw[show(n==m)=false by simpa using hnm];exact hr,?_⟩
     simp only[mget,if_neg hnm]
     exact hm
   | none=>
    cases k <;> first | (cases hk;done) | skip
    cases k' <;> first | (cases hks.1;done) | skip
    rename_i s s'
    rw[show u=_ from hu] at hr ⊢
    rw[show a=_ from r1] at e1
    obtain⟨r0,h0,h1⟩:=MapKept.sameNow_of_keys (d:=.string) (a:=.string s) (b:=.string s') trivial trivial
    unfold Instr.findNow
    simp only[e1,h0]
    by_cases hnm:s=s'
    ·subst hnm
     rw[h1.2 rfl]
     refine⟨some (i,x.val),rfl,?_⟩
     simp only[mget,if_true]
     exact⟨i,x.val,rfl,by rw[e2];exact r2⟩
    ·have:r0=false:=by
      cases r0 with
      | false=>rfl
      | true=>exact absurd (by have:=h1.1 rfl;injection this) hnm
     rw[this]
     refine⟨r,hr,?_⟩
     simp only[mget,if_neg hnm]
     exact hm
theorem ran_lookup(hT:TabOk P tb){o:Oper}{t:TypeId}{x ix:Operand}{ok:Bool}(ho:o.op=.lookup t x ix ok){a:Act}{w:World}{g:Gh}{st:St}{K:T→St→Prop}(hd:Hd P X base S st a w g)(hs:semOp tb C o st K):Ran P X base S N st o a w g K:=by
 unfold semOp at hs
 rw[ho] at hs
 dsimp only at hs
 split at hs <;> try exact hs.elim
 rename_i q hq
 split at hs <;> try exact hs.elim
 rename_i ks vs hx
 split at hs <;> try exact hs.elim
 rename_i k hk
 split at hs <;> try exact hs.elim
 rename_i hb
 simp only[Bool.and_eq_true] at hb
 obtain⟨⟨b1,b2⟩,b3⟩:=hb
 obtain⟨r0,hr0,hK⟩:=hs
 obtain⟨kt,et,ei,t1,t2,t3,t4,t5⟩:=hT.mps hq
 obtain⟨m,es,ck,hm,hobj,_,rk,rv⟩:=toV_rep (hd.ev x) hx
 have hu:=toV_rep (hd.ev ix) hk
 obtain⟨r,hr,hmr⟩:=find_run b1 hu ks vs es.toList 0 b2 (Nat.eq_of_beq_eq_true b3) rk rv
 have hkey:∀em,(Instr.checkKey em 10000 kt (a.eval ix)).run P w=.ok () w:=fun em=>by
  show(Instr.checkKey em (9999+1) kt (a.eval ix)).run P w=.ok () w
  unfold Instr.checkKey
  simp only[Sem.run_bind,run_underlying t2,Result.andThen_ok]
  cases hq1:q.1 <;> rfl
 have hfind:(Instr.findKey kt (a.eval ix) es.toList).run P w=.ok r w:=by
  exact MapKept.run_findKey t2 hr
 have hzero:(zeroValue et).run P w=.ok (zval q.2) w:=by
  simp[zeroValue,typeInfo,t3,t4]
 have fin:∀(v:Value) (T0:T),(Instr.lookup t (a.eval x) (a.eval ix) ok).run P w=.ok v w→RepT P w g T0 v→K T0 st→Ran P X base S N st o a w g K:=fun v T0 h1 h2 h3=>
  ⟨.value v,v,w,T0,st,g,by unfold execOp;simp only[ho,Sem.run_bind,h1,Result.andThen_ok];rfl,.inl rfl,h3,h2,hd,Stp.refl _ _ _ _ _ _,(Tame.refl _ _ _).b⟩
 have hlook:∀v b,r=none∧v=zval q.2∧b=false∨(∃j,r=some (j,v))∧b=true→(Instr.lookup t (a.eval x) (a.eval ix) ok).run P w=.ok (if ok then .tuple #[v,.bool b] else v) w:=fun v b hv=>by
  unfold Instr.lookup
  rcases hv with⟨rfl,rfl,rfl⟩ | ⟨⟨j,rfl⟩,rfl⟩ <;>
   simp[run_underlying t1,hm,MapKept.run_getObj_map hobj,hkey,hfind,hzero,Result.andThen]
 rw[hr0] at hmr
 cases r0 with
 | none=>
  have:=hlook (zval q.2) false (.inl ⟨hmr,rfl,rfl⟩)
  cases ok with
  | false=>exact fin _ (.v q.2) this (zval_rep t5) hK
  | true=>exact fin (.tuple #[zval q.2,.bool false]) (.tup [.v q.2,.v (.bool false)]) this ⟨_,rfl,_,_,rfl,zval_rep t5,_,_,rfl,rfl,rfl⟩ hK
 | some v=>
  obtain⟨j,x',rfl,hrx⟩:=hmr
  have:=hlook x' true (.inr ⟨⟨j,rfl⟩,rfl⟩)
  cases ok with
  | false=>exact fin _ (.v v) this hrx hK
  | true=>exact fin (.tuple #[x',.bool true]) (.tup [.v v,.v (.bool true)]) this ⟨_,rfl,_,_,rfl,hrx,_,_,rfl,rfl,rfl⟩ hK
theorem guard_still(op:BinOp)(t:TypeId)(x y:Operand)(u v:Value)(h1:u≠ .nilIface)(h2:∀cs,u≠ .agg cs)(W:World):(eqGuard op t x y u v).run P W=.ok () W:=by
 cases op <;> cases u <;> first | rfl | exact absurd rfl h1 | exact absurd rfl (h2 _)
theorem guard_nil(op:BinOp)(t:TypeId)(x:Operand)(cv u v:Value)(hu:u=.nilIface)(W:World):(eqGuard op t x (.const cv) u v).run P W=.ok () W:=by
 subst hu
 cases op <;> cases v <;> first | rfl | simp[eqGuard]
theorem equal_open(t:TypeId)(u v:Value):Op.equal t u v=Op.equalIn (9999+1) t u v:=rfl
theorem eq_iface{t:TypeId}(hm:∃ms,P.underlying t=some (.interface ms)){u v:Value}(hu:u=.nilIface∨∃s d,u=.iface s d)(hv:v=.nilIface∨∃s d,v=.iface s d)(hn:u=.nilIface∨v=.nilIface):∃b,(∀w:World,(binOp .eql t u v).run P w=.ok (.bool b) w)∧(∀w:World,(binOp .neq t u v).run P w=.ok (.bool (!b)) w)∧(b=true↔u=.nilIface∧v=.nilIface):=by
 obtain⟨ms,hm⟩:=hm
 have key:∀(w:World) (b:Bool),(b=true↔u=.nilIface∧v=.nilIface)→(Op.equal t u v).run P w=.ok b w:=fun w b hb=>by
  rw[equal_open]
  unfold Op.equalIn
  rcases hu with rfl | ⟨s,d,rfl⟩ <;> rcases hv with rfl | ⟨s',d',rfl⟩
  ·simp only[Sem.run_bind,run_underlying hm,Result.andThen_ok];rw[hb.2 ⟨rfl,rfl⟩];rfl
  ·simp only[Sem.run_bind,run_underlying hm,Result.andThen_ok];rw[show b=false by cases b;rfl;have:=hb.1 rfl;cases this.2];rfl
  ·simp only[Sem.run_bind,run_underlying hm,Result.andThen_ok];rw[show b=false by cases b;rfl;have:=hb.1 rfl;cases this.1];rfl
  ·rcases hn with h | h <;> cases h
 refine⟨_,?_,?_,(@decide_eq_true_iff (u=.nilIface∧v=.nilIface) (Classical.propDecidable _))⟩
 all_goals
  intro w
  have hk:=key w _ (@decide_eq_true_iff (u=.nilIface∧v=.nilIface) (Classical.propDecidable _))
  rcases hu with rfl | ⟨s,d,rfl⟩ <;> rcases hv with rfl | ⟨s',d',rfl⟩ <;> (unfold binOp;simp only[Sem.run_bind,hk,Result.andThen_ok];rfl)
theorem eq_bool{t:TypeId}(hm:P.underlying t=some .bool)(w:World)(a b:Bool):(binOp .eql t (.bool a) (.bool b)).run P w=.ok (.bool (a==b)) w∧(binOp .neq t (.bool a) (.bool b)).run P w=.ok (.bool (!(a==b))) w:=by
 have hk:(Op.equal t (.bool a) (.bool b)).run P w=.ok (a==b) w:=by
  rw[equal_open]
  unfold Op.equalIn
  simp only[Sem.run_bind,run_underlying hm,Result.andThen_ok]
  rfl
 constructor <;> (unfold binOp;simp only[Sem.run_bind,hk,Result.andThen_ok];rfl)
theorem eqlS_bool{a:Bool}{y:V}{K:Bool→Prop}(h:eqlS (.bool a) y K):∃b,y=.bool b∧∀q:Bool,(q=true↔a=b)→K q:=by
 cases y <;> first | exact⟨_,rfl,h⟩ | exact h.elim
theorem eqlS_iface{p q:V}{w:World}{L:Lv}{u v:Value}(rp:Rep w L p u)(rq:Rep w L q v)(hp:p=.nili∨∃s d,p=.ifc s d){K:Bool→Prop}(hs:eqlS p q K):(u=.nilIface∨∃s d,u=.iface s d)∧(v=.nilIface∨∃s d,v=.iface s d)∧(u=.nilIface∨v=.nilIface)∧∀b,(b=true↔u=.nilIface∧v=.nilIface)→K b:=by
 unfold eqlS at hs
 split at hs <;> try exact hs.elim
 ·rcases hp with h | ⟨_,_,h⟩ <;> cases h
 ·have h1:u=_:=rp
  have h2:v=_:=rq
  subst h1 h2
  exact⟨.inl rfl,.inl rfl,.inl rfl,fun b hb=>by rw[show b=true from hb.2 ⟨rfl,rfl⟩];exact hs⟩
 ·obtain⟨z,h1,_⟩:=rp
  have h2:v=_:=rq
  subst h1 h2
  exact⟨.inr ⟨_,_,rfl⟩,.inl rfl,.inr rfl,fun b hb=>by cases b;exact hs;have:=hb.1 rfl;cases this.1⟩
 ·obtain⟨z,h1,_⟩:=rq
  have h2:u=_:=rp
  subst h1 h2
  exact⟨.inl rfl,.inr ⟨_,_,rfl⟩,.inl rfl,fun b hb=>by cases b;exact hs;have:=hb.1 rfl;cases this.2⟩
theorem part_one{P:Program}{t:TypeId}(h2:(P.underlying t).isSome=true)(ha:aggB P t=false){cs:Array Value}{i:Nat}{u:Value}(hc:cs[i]? =some u)(W:World):(part t cs i).run P W=.ok u W:=by
 unfold part
 simp only[Sem.run_bind,run_isAgg' h2,Result.andThen_ok,ha,Bool.false_eq_true,if_false,hc]
 rfl
theorem eqFields_run{w:World}{L:Lv}(d:Nat)(us vs:Array Value):∀(ks:List Bool) (fs:List Field) (i:Nat) (xs ys:List V),FlatOk P i fs ks→flatV ks xs=true→flatV ks ys=true→RepL w L xs (us.toList.drop i)→RepL w L ys (vs.toList.drop i)→∃b:Bool,(∀W:World,(Op.eqFields (d+1) us vs fs).run P W=.ok b W)∧(b=true↔xs=ys)
 | [],[],i,xs,ys,_,h1,h2,_,_=>by
  cases xs with
  | cons=>cases h1
  | nil=>
   cases ys with
   | cons=>cases h2
   | nil=>exact⟨true,fun W=>rfl,by simp⟩
 | k::ks,f::fs,i,xs,ys,⟨g1,g2,g3,g4⟩,h1,h2,h3,h4=>by
  subst g2
  have nxt:∀{x:V} {xs:List V} {zs:Array Value},RepL w L (x::xs) (zs.toList.drop f.offset)→∃u,zs[f.offset]? =some u∧Rep w L x u∧RepL w L xs (zs.toList.drop (f.offset+1)):=fun {x xs zs} h=>by
   obtain⟨u,r,e,_,q1,q2⟩:=h
   refine⟨u,?_,q1,?_⟩
   ·have:=congrArg (fun l=>l[0]?) e
    simpa using this
   ·rw[←List.drop_drop,e];exact q2
  cases k with
  | true=>
   cases xs with
   | nil=>cases h1
   | cons x xs=>
   cases ys with
   | nil=>cases h2
   | cons y ys=>
   cases x <;> try (cases h1;done)
   cases y <;> try (cases h2;done)
   rename_i a b
   obtain⟨u,u1,u2,u3⟩:=nxt h3
   obtain⟨v,v1,v2,v3⟩:=nxt h4
   obtain rfl:u=.string a:=u2
   obtain rfl:v=.string b:=v2
   obtain⟨q,q1,q2⟩:=eqFields_run d us vs ks fs (f.offset+1) xs ys g4 h1 h2 u3 v3
   have ha:aggB P f.type=false:=by unfold aggB;rw[g3];rfl
   have hs:(P.underlying f.type).isSome=true:=by rw[g3];rfl
   refine⟨decide (a=b)&&q,fun W=>?_,by simp[q2]⟩
   unfold Op.eqFields
   simp only[g1,ne_eq,not_false_eq_true,if_true,Sem.run_bind,part_one hs ha u1,part_one hs ha v1,Result.andThen_ok,run_equalIn_string W d f.type a b (by simpa using g3),bytes_eq]
   by_cases e:a=b
   ·simp[e,q1]
   ·simp[e]
  | false=>
   cases xs with
   | nil=>cases h1
   | cons x xs=>
   cases ys with
   | nil=>cases h2
   | cons y ys=>
   cases x <;> try (cases h1;done)
   cases y <;> try (cases h2;done)
   rename_i a b
   obtain⟨u,u1,u2,u3⟩:=nxt h3
   obtain⟨v,v1,v2,v3⟩:=nxt h4
   obtain rfl:u=.bool a:=u2
   obtain rfl:v=.bool b:=v2
   obtain⟨q,q1,q2⟩:=eqFields_run d us vs ks fs (f.offset+1) xs ys g4 h1 h2 u3 v3
   have ha:aggB P f.type=false:=by unfold aggB;rw[g3];rfl
   have hs:(P.underlying f.type).isSome=true:=by rw[g3];rfl
   refine⟨decide (a=b)&&q,fun W=>?_,by simp[q2]⟩
   unfold Op.eqFields
   simp only[g1,ne_eq,not_false_eq_true,if_true,Sem.run_bind,part_one hs ha u1,part_one hs ha v1,Result.andThen_ok,run_equalIn_bool' W d f.type a b (by simpa using g3)]
   by_cases e:a=b
   ·simp[e,q1]
   ·have e':(a==b)=false:=by simpa using e
    simp[e,e']
 | [],_::_,_,_,_,h,_,_,_,_=>h.elim
 | _::_,[],_,_,_,h,_,_,_,_=>h.elim
theorem eq_struct(hT:TabOk P tb){t:TypeId}{ks:List Bool}(ht:lk t tb.eqs=some ks){w:World}{L:Lv}{xs ys:List V}{u v:Value}(h:(flatV ks xs&&flatV ks ys)=true)(h1:Rep w L (.agg xs) u)(h2:Rep w L (.agg ys) v):∃b:Bool,(∀W:World,(binOp .eql t u v).run P W=.ok (.bool b) W)∧(∀W:World,(binOp .neq t u v).run P W=.ok (.bool (!b)) W)∧(b=true↔xs=ys)∧∀(op:BinOp) (x y:Operand) (W:World),(eqGuard op t x y u v).run P W=.ok () W:=by
 obtain⟨fs,f1,f2,f3,f4⟩:=hT.eqs ht
 rw[Bool.and_eq_true] at h
 obtain⟨us,rfl,r1⟩:=h1
 obtain⟨vs,rfl,r2⟩:=h2
 obtain⟨b,b1,b2⟩:=eqFields_run (P:=P) (w:=w) (L:=L) 9998 us vs ks fs.toList 0 xs ys f4 h.1 h.2 (by simpa using r1) (by simpa using r2)
 have hfo:P.fieldsOf t=fs:=by unfold Program.fieldsOf;rw[f1]
 have hr:∀W:World,(Op.equalIn 10000 t (.agg us) (.agg vs)).run P W=.ok b W:=fun W=>by
  rw[run_equalIn_agg W 9999 t us vs (by rw[hfo];exact f1) f2,hfo]
  exact b1 W
 exact⟨b,fun W=>by rw[run_eql_struct,hr];rfl,fun W=>by rw[run_neq_struct,hr];rfl,b2,fun op x y W=>run_eqGuard_agg W op t x y us vs f3⟩
theorem ran_binOp(hT:TabOk P tb){o:Oper}{op:BinOp}{t t':TypeId}{x y:Operand}(ho:o.op=.binOp op t x y t'){a:Act}{w:World}{g:Gh}{st:St}{K:T→St→Prop}(hd:Hd P X base S st a w g)(hs:semOp tb C o st K):RanQ P st o a w g K:=by
  unfold semOp at hs
  rw[ho] at hs
  dsimp only at hs
  split at hs <;> try exact hs.elim
  rename_i p hp
  split at hs <;> try exact hs.elim
  rename_i q hq
  have rp:=toV_rep (hd.ev x) hp
  have rq:=toV_rep (hd.ev y) hq
  have fin:∀(z:Value) (T0:T),(∀W:World,(eqGuard op t x y (a.eval x) (a.eval y)).run P W=.ok () W)→(∀W:World,(binOp op t (a.eval x) (a.eval y)).run P W=.ok z W)→RepT P w g T0 z→K T0 st→RanQ P st o a w g K:=fun z T0 hg hb hr hk=>by
    refine ranq hd (t:=T0) (v:=z) ?_ hr hk
    intro W
    unfold execOp
    simp only[ho,Sem.run_bind,hg,hb,Result.andThen_ok]
    rfl
  have grd:isConstO y=true→(p=.nili∨∃s d,p=.ifc s d)→∀W:World,(eqGuard op t x y (a.eval x) (a.eval y)).run P W=.ok () W:=fun hc hn W=>by
    obtain⟨cv,rfl⟩:∃v,y=.const v:=by cases y <;> first | exact⟨_,rfl⟩ | cases hc
    rcases hn with rfl | ⟨s,d,rfl⟩
    · exact guard_nil _ _ _ _ _ _ rp _
    · obtain⟨z,e,_⟩:=rp
      exact guard_still _ _ _ _ _ _ (by rw[e];intro h;cases h) (fun cs=>by rw[e];intro h;cases h) _
  split at hs
  · split at hs <;> try exact hs.elim
    rename_i hb
    have hu:=hT.boo (t:=t) (by rw[hb];rfl)
    obtain⟨b,rfl,hs⟩:=eqlS_bool hs
    have h1:a.eval x=_:=rp
    have h2:a.eval y=_:=rq
    refine fin _ (.v (.bool _)) (guard_still _ _ _ _ _ _ (by rw[h1];intro h;cases h) (fun cs=>by rw[h1];intro h;cases h)) (fun W=>by rw[h1,h2];exact(eq_bool hu W _ _).1) rfl (hs _ (by simp))
  · split at hs <;> try exact hs.elim
    rename_i hb
    have hu:=hT.boo (t:=t) (by rw[hb];rfl)
    obtain⟨b,rfl,hs⟩:=eqlS_bool hs
    have h1:a.eval x=_:=rp
    have h2:a.eval y=_:=rq
    refine fin _ (.v (.bool _)) (guard_still _ _ _ _ _ _ (by rw[h1];intro h;cases h) (fun cs=>by rw[h1];intro h;cases h)) (fun W=>by rw[h1,h2];exact(eq_bool hu W _ _).2) rfl (hs _ (by simp))
  all_goals first
    | (split at hs <;> try exact hs.elim
       rename_i hc hb
       obtain⟨i1,i2,i3,i4⟩:=eqlS_iface rp rq (by first | exact .inl rfl | exact .inr ⟨_,_,rfl⟩) hs
       obtain⟨b,b1,b2,b3⟩:=eq_iface (hT.conT hb) i1 i2 i3
       first
         | exact fin _ (.v (.bool b)) (grd hc (by first | exact .inl rfl | exact .inr ⟨_,_,rfl⟩)) b1 rfl (i4 b b3)
         | exact fin _ (.v (.bool (!b))) (grd hc (by first | exact .inl rfl | exact .inr ⟨_,_,rfl⟩)) b2 rfl (i4 b b3))
    | (split at hs <;> try exact hs.elim
       split at hs <;> try exact hs.elim
       rename_i hks _ hfl
       obtain⟨b,b1,b2,b3,b4⟩:=eq_struct hT hks hfl rp rq
       first
         | exact fin _ (.v (.bool b)) (b4 _ _ _) b1 rfl (hs b b3)
         | exact fin _ (.v (.bool (!b))) (b4 _ _ _) b2 rfl (hs b b3))
    | skip
  obtain⟨z,hz,hr,hk⟩:=binS_run op p q t rp rq hs
  refine fin _ (.v z) (guard_still _ _ _ _ _ _ ?_ ?_) hz hr hk
  · intro h
    rw[h] at rp
    unfold binS at hs
    split at hs <;> first | exact hs | cases rp
  · intro cs h
    rw[h] at rp
    unfold binS at hs
    split at hs <;> first | exact hs | cases rp
end Go.Proofs.YtknelogmocedeaaGreatDoor
