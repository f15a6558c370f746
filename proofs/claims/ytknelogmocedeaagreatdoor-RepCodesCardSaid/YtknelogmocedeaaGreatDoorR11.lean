/- Several texts, one behind the other. The walk without memory: a function's contract out of the walk of its body. Whatever program. The walk without memory: the program's types, asked by one reckoning. Whatever program. The walk without memory: its steps. Values in memory: how numbers, texts, structs and slices of them stand in cells; that they stand so in later worlds; what is appended to a list of the function's own; what came in. Of whatever program. What the walks ask of the package-level variables: the sentinel errors, MaxLen's number, the decoder's two tables. It lives on in later worlds. Between two ways of telling how a slice lies: views, and values without memory. Whatever program; a function's contract told in one way, told in the other one. -/
import Derived.Test.YtknelogmocedeaaGreatDoorR10
import Derived.IntWalk
import Derived.Test.YtknelogmocedeaaGreatDoorR01
import Derived.Laws.AppendOwn
import Derived.Deep.Upon
import Derived.ChangeSlices
import Derived.OwnWalkIn
import Derived.Maps.AppendAt
import Derived.Deep.AppendLies
import Derived.Shelf.Unicode.DecodeSlow
namespace Go.Proofs.YtknelogmocedeaaGreatDoor
open Go.RowKit
set_option linter.unusedVariables false
variable {P : Program} {X : En} {tb : Tab}
def argsE:Nat→List T→List (Nat×T)
 | _,[]=>[]
 | i,t::r=>(i,t)::argsE (i+1) r
def St.head (n:Nat)(args:List T):St:={n:=n,env:=argsE 0 args,bs:=[],lv:=[]}
def resT(tb:Tab)(st:St):ResultVar→Option T
 | .tmp t=>some (tget st.env t)
 | .cell x t=>match lk t tb.siz with
  | some q=>match tget st.env x with
   | .ptr i o=>match lk i st.bs with
    | some cs=>match q.2 with
     | true=>match toVs ((cs.drop o).take q.1) with
      | some l=>match Nat.beq l.length q.1 with
       | true=>some (.v (.agg l))
       | false=>none
      | none=>none
     | false=>cs[o]?
    | none=>none
   | _=>none
  | none=>none
def resTs(tb:Tab)(st:St):List ResultVar→Option (List T)
 | []=>some []
 | x::r=>match resT tb st x with
  | some t=>match resTs tb st r with
   | some ts=>some (t::ts)
   | none=>none
  | none=>none
def resOk(ts:List T)(r:T):Prop:=match ts with
 | [t]=>LeT t r∧r.pure=true
 | ts=>match r with
  | .tup l=>LeTs ts l∧T.pures l=true
  | _=>False
def resOkI(ts:List T)(r:T):Prop:=match ts with
 | [t]=>t=r∨LeT t r
 | ts=>match r with
  | .tup l=>LeEs ts l
  | _=>False
theorem resOk.i {ts:List T}{r:T}(h:resOk ts r):resOkI ts r∧r.pure=true:=by
 unfold resOk at h
 unfold resOkI
 split at h
 ·exact⟨.inr h.1,h.2⟩
 ·split at h
  ·exact⟨.of h.1,h.2⟩
  ·exact h.elim
def endQ(tb:Tab)(rs:List ResultVar)(r:T):Exit→St→Prop
 | .normal,st=>match resTs tb st rs with
  | some ts=>resOk ts r
  | none=>False
 | .ret,st=>match resTs tb st rs with
  | some ts=>resOk ts r
  | none=>False
 | _,_=>False
theorem resT_rep(hT:TabOk P tb){base:Nat}{S:Nat→Prop}{st:St}{a:Act}{w:World}{g:Gh}(hd:Hd P X base S st a w g){x:ResultVar}{t:T}(h:resT tb st x=some t):
  ∃v,((match x with | .tmp t=>pure (a.tmps.getD t undef) | .cell y t=>do loadVar t (←asAddr (a.tmps.getD y undef))):Sem Value).run P w=.ok v w∧RepT P w g t v:=by
 cases x with
 | tmp s=>cases h;exact⟨_,rfl,hd.env s⟩
 | cell y s=>
  unfold resT at h
  dsimp only at h
  split at h <;> try cases h
  rename_i q hq
  obtain⟨s1,s2,s3,s4,s5,s6⟩:=hT.siz hq
  split at h <;> try cases h
  rename_i i of hx
  have hev:=hd.env y
  rw[hx] at hev
  have hev':a.tmps.getD y undef=.pointer (some ⟨(g.ρ i).1,(g.ρ i).2+of,none⟩):=hev
  split at h <;> try cases h
  rename_i cs hcs
  obtain⟨us,u1,u2,u3⟩:=hd.mm.vals hcs
  split at h
  ·rename_i hag
   split at h <;> try cases h
   rename_i l hl
   split at h <;> try cases h
   rename_i hlen
   have hlen':l.length=q.1:=Nat.eq_of_beq_eq_true hlen
   have hrep:RepL w g.L l ((us.drop of).take q.1):=toVs_rep (P:=P) hl (by rw[List.length_take,List.length_drop,List.length_take,List.length_drop,u1]) fun j t' hj=>by
    rw[List.getElem?_take] at hj ⊢
    split at hj
    ·rw[List.getElem?_drop] at hj ⊢
     rw[if_pos (by assumption)]
     exact u2 _ _ hj
    ·cases hj
   refine⟨.agg ((us.drop of).take q.1).toArray,?_,⟨_,rfl,by simpa using hrep⟩⟩
   dsimp only
   rw[hev']
   simp only[Sem.run_bind,asAddr,Sem.run_pure,Result.andThen_ok]
   exact run_loadVar_agg s1 s3 (s4.trans hag) (cs:=(us.drop of).take q.1) (by rw[s2,hrep.length,hlen']) fun j u hu=>by
    rw[List.getElem?_take] at hu
    split at hu
    ·rw[List.getElem?_drop] at hu
     have:=u3 _ u hu
     rwa [Nat.add_assoc]
    ·cases hu
  ·rename_i hag
   obtain⟨u,hu,hr,_⟩:=u2 _ _ h
   refine⟨u,?_,hr⟩
   dsimp only
   rw[hev']
   simp only[Sem.run_bind,asAddr,Sem.run_pure,Result.andThen_ok]
   exact run_loadVar_one s3 (s4.trans hag) (u3 _ _ hu)
theorem resTs_rep(hT:TabOk P tb){base:Nat}{S:Nat→Prop}{st:St}{a:Act}{w:World}{g:Gh}(hd:Hd P X base S st a w g):∀{rs:List ResultVar} {ts:List T},resTs tb st rs=some ts→
  ∃vs,(rs.mapM (fun x=>(match x with | .tmp t=>pure (a.tmps.getD t undef) | .cell y t=>do loadVar t (←asAddr (a.tmps.getD y undef)):Sem Value))).run P w=.ok vs w∧RepTs P w g ts vs
 | [],ts,h=>by cases h;exact⟨[],rfl,rfl⟩
 | x::r,ts,h=>by
  unfold resTs at h
  split at h <;> try cases h
  rename_i t ht
  split at h <;> try cases h
  rename_i ts' hts
  obtain⟨v,hv,hr⟩:=resT_rep hT hd ht
  obtain⟨vs,hvs,hrs⟩:=resTs_rep hT hd hts
  refine⟨v::vs,?_,⟨v,vs,rfl,hr,hrs⟩⟩
  rw[List.mapM_cons]
  simp only[Sem.run_bind,hv,hvs,Result.andThen_ok,Sem.run_pure]
theorem results_run(hT:TabOk P tb){base:Nat}{S:Nat→Prop}{st:St}{a:Act}{w:World}{g:Gh}(hd:Hd P X base S st a w g){fn:Func}{r:T}{ts:List T}(h:resTs tb st fn.results.toList=some ts)(ho:resOkI ts r):∃v,(results fn a.tmps).run P w=.ok v w∧RepT P w g r v:=by
 obtain⟨vs,h1,h2⟩:=resTs_rep hT hd h
 have hrun:(fn.results.mapM (fun x=>(match x with | .tmp t=>pure (a.tmps.getD t undef) | .cell y t=>do loadVar t (←asAddr (a.tmps.getD y undef)):Sem Value))).run P w=.ok vs.toArray w:=by
  rw[Array.mapM_eq_mapM_toList]
  simp only[Sem.run_map,h1,Result.andThen_ok]
 have hl:=h2.length
 have hres:(results fn a.tmps).run P w=((fn.results.mapM (fun x=>(match x with | .tmp t=>pure (a.tmps.getD t undef) | .cell y t=>do loadVar t (←asAddr (a.tmps.getD y undef)):Sem Value))).run P w).andThen fun vs w'=>((pure (if h:vs.size=1 then vs[0] else .tuple vs)):Sem Value).run P w':=by
  unfold results
  rw[Sem.run_bind]
  rfl
 by_cases h3:∃t,ts=[t]
 ·obtain⟨t,rfl⟩:=h3
  obtain⟨v,us,rfl,r1,r2⟩:=h2
  obtain rfl:us=[]:=r2
  exact⟨v,by rw[hres,hrun];rfl,by rcases ho with rfl | ho;exact r1;exact LeT.rep _ _ _ ho r1⟩
 ·have hne:vs.toArray.size≠1:=fun e=>h3 (by
   rw[List.size_toArray,hl] at e
   match ts,e with
   | [t],_=>exact⟨t,rfl⟩)
  refine⟨.tuple vs.toArray,by rw[hres,hrun,Result.andThen_ok,dif_neg hne];rfl,?_⟩
  unfold resOkI at ho
  split at ho
  ·rename_i t;exact absurd ⟨t,rfl⟩ h3
  ·split at ho
   ·rename_i l
    exact⟨_,rfl,LeEs.rep ho h2⟩
   ·exact ho.elim
theorem argsE_get{w:World}{g:Gh}:∀{args:List T} {vs:List Value} (k t:Nat),RepTs P w g args vs→RepT P w g (tget (argsE k args) t) (if t < k then undef else vs.getD (t - k) undef)
 | [],_,k,t,h=>by rw[show _=[] from h];trivial
 | x :: r, _, k, t, ⟨u, us, e, h1, h2⟩ => by
  subst e
  unfold tget
  rw[argsE]
  by_cases hk:t=k
  ·subst hk
   rw[lk_cons_eq,if_neg (Nat.lt_irrefl _)]
   simpa using h1
  ·rw[lk_cons_ne _ _ hk]
   have ih:=argsE_get (k+1) t h2
   unfold tget at ih
   by_cases hlt:t < k
   ·rw[if_pos hlt]
    rw[if_pos (by omega)] at ih
    exact ih
   ·rw[if_neg hlt]
    rw[if_neg (by omega)] at ih
    rwa [show(u::us).getD (t - k) undef=us.getD (t - (k+1)) undef by
     rw[show t - k=(t - (k+1))+1 by omega];simp]
theorem Hd.putObj {base:Nat}{S:Nat→Prop}{st:St}{a':Act}{W:World}{g':Gh}{l:Nat}(o:Obj)(h:Hd P X base S st a' W g'){o0:Obj}(hr:W.heap[l]? =some o0)(hc0:o0.isCells=false)(hm0:isMapO o0=false)(hE:¬X.Eb l):Hd P X base S st a' (W.putObj l o) g':=by
 refine h.upd (putObj_upd W l o) (.putObj hr hm0) (fun i hi e=>?_) (fun {b o} hL e=>?_) (fun k e b hk hbk eb=>?_) (fun b hbl=>by subst hbl;exact hE)
 ·obtain⟨c,t,fr,hc⟩:=h.mm.bc hi
  rw[e,hr] at hc;cases hc;cases hc0
 ·obtain⟨u,hu⟩:=h.mm.Lc hL
  unfold World.cell? at hu
  dsimp only at hu
  rw[e,hr] at hu
  cases o0 <;> first | (cases hc0;done) | cases hu
 ·obtain⟨n0,vals,o1,_⟩:=h.mm.own hk
  rcases o1.2 with⟨h0,_⟩ | ⟨gg,cap,cur,h0,_,h1,_⟩
  ·rw[h0] at hbk;cases hbk
  ·rw[h0] at hbk;cases hbk;dsimp only at eb;rw[eb,hr] at h1;cases h1;cases hc0
theorem leaves_marks(hT:TabOk P tb){base:Nat}{S:Nat→Prop}{fn:Func}{r:T}{ts:List T}{R:Ending→World→Prop}{w0:World}(hE0:X.E w0):∀(ms:List Nat) (st:St) (a:Act) (w:World) (g:Gh),Hd P X base S st a w g→MarksOk w0 w ms→resTs tb st fn.results.toList=some ts→resOkI ts r→(∀v w',Upd (fun b=>w0.heap.size≤b) w w'→Hd P X base S st a w' g→RepT P w' g r v→R (.returned v) w')→LeavesInM Fence.wide 1 P fn a.tmps R (marks ms) .returning w
 | [],st,a,w,g,hd,hm,hts,hr,hR=>by
  obtain⟨v,v1,v2⟩:=results_run hT hd hts hr
  exact⟨v,v1,hR v w (Upd.refl _ _) hd v2⟩
 | m::ms,st,a,w,g,hd,hm,hts,hr,hR=>by
  obtain⟨h1,h2⟩:=hm.2 m (by simp)
  have hmE:¬X.Eb m:=fun hE=>by have:=X.lt hE0 hE;omega
  refine⟨by simp,.inl ⟨m,_,rfl,run_takeDeferred h2,?_⟩⟩
  have hnd:=List.nodup_cons.1 hm.1
  refine leaves_marks hT hE0 ms st a _ g (hd.putObj _ h2 rfl rfl hmE) ⟨hnd.2,fun r' hr'=>?_⟩ hts hr fun v w' hu hd' hrv=>hR v w' (((putObj_upd w m _).mono fun k hk=>(by rw[hk];exact h1)).trans hu) hd' hrv
  obtain⟨h3,h4⟩:=hm.2 r' (by simp[hr'])
  refine⟨h3,?_⟩
  rw[World.putObj_heap_other (fun e=>hnd.1 (by rw[←e];exact hr'))]
  exact h4
theorem fn_of(hT:TabOk P tb)(hm:P.follows .mixedOrders=true){f:FuncId}{fn:Func}{c:Code}{args:List T}{r:T}(hf:P.funcs[f]? =some fn)(hb:fn.body=some c)
  (hen:∀(vs:Array Value) (w:World),(callFunc f vs).run P w=.ok (.enter f vs) w) (hn:Nat.ble args.length fn.ntmps=true)
  (h:aCode P X tb c (endQ tb fn.results.toList r) (St.head fn.ntmps args)):Fn P X f args r:=by
 refine⟨hen,fun w L vs hE hL hargs=>?_⟩
 have hn':=Nat.le_of_ble_eq_true hn
 have hvl:=hargs.length
 have hd:Hd P X w.heap.size (fun _=>False) (St.head fn.ntmps args) {tmps:=vs.toArray++Array.replicate (fn.ntmps - vs.toArray.size) undef,defers:=[]} w ⟨L,fun _=>(0,0),fun _=>undef⟩:=by
  refine⟨by simp[St.head];omega,fun t=>?_,⟨fun hi=>(by cases hi),fun hi=>(by cases hi),fun hi=>(by cases hi),fun hi=>(by cases hi),fun hi=>(by cases hi),fun hi=>(by cases hi),fun hi=>(by cases hi),fun hi=>(by cases hi),fun hi=>(by cases hi),hL,fun hi=>(by cases hi),fun hi=>(by cases hi)⟩,hE,Nat.le_refl _⟩
  have:=argsE_get 0 t hargs
  rw[if_neg (by omega),Nat.sub_zero] at this
  refine Eq.mpr ?_ this
  congr 1
  show((vs.toArray++Array.replicate (fn.ntmps - vs.toArray.size) undef).getD t undef)=_
  rw[Array.getD_eq_getD_getElem?,List.getD_eq_getElem?_getD]
  by_cases ht:t < vs.length
  ·rw[Array.getElem?_append_left (by simpa using ht)];simp
  ·rw[Array.getElem?_append_right (by simpa using ht),List.getElem?_eq_none (by omega)]
   by_cases h2:t - vs.toArray.size < fn.ntmps - vs.toArray.size
   ·rw[Array.getElem?_replicate,if_pos h2];rfl
   ·rw[Array.getElem?_replicate,if_neg h2]
 have hw:=code_wp hT hm c X ⟨fun _ h=>h,fun _ h=>h⟩ w.heap.size fn.ntmps (fun _=>False) Fence.wide 1 (.inl rfl) (fun _=>True) (fun _ _=>trivial) _ _ _ w _ (fun ch st h=>h.elim) (fun l hl=>by cases hl) h hd rfl
 refine callsIn_wide.1 (callsIn_of_wp_marks (n:=1) hf hb trivial (wpIn_mono hw ?_))
 rintro e a' w' ⟨st',g',q1,q2,q3,q4,q5,ms,q6,q7⟩
 rw[List.append_nil] at q6
 have fin:(match resTs tb st' fn.results.toList with | some ts=>resOk ts r | none=>False)→LeavesInM Fence.wide 1 P fn a'.tmps (fun e w'=>∃v L',e=.returned v∧Below w.heap.size w w'∧Same L w L' w'∧(∀{b o},L' b o→L b o∨w.heap.size≤b)∧(∀{b o},L' b o→∃u,w'.cell? ⟨b,o,none⟩=some u)∧RepT P w' ⟨L',fun _=>(0,0),fun _=>undef⟩ r v) a'.defers .returning w':=fun hr=>by
  split at hr
  ·rename_i ts hts
   rw[q6]
   refine leaves_marks hT hE ms st' a' w' g' q2 q7 hts hr.i.1 fun v w2 hu hd2 hrv=>?_
   have hp:=hr.i.2
   have hu1:=q3.upd
   refine⟨v,g'.L,rfl,⟨hu.os.trans hu1.os,hu.tape.trans hu1.tape,hu.output.trans hu1.output,Nat.le_trans hu1.size hu.size,fun k hk=>?_⟩,⟨fun b o u h1 h2=>?_,fun k o h1 h2=>(hu.block k (Array.getElem?_eq_some_iff.1 (q3.same.m k o h1 h2)).1 (by have:=(Array.getElem?_eq_some_iff.1 h1).1;omega)).trans (q3.same.m k o h1 h2)⟩,fun {b o} h=>(q3.newL h).imp id And.left,hd2.mm.Lc,RepT.pure (g:=g') (g':=⟨g'.L,fun _=>(0,0),fun _=>undef⟩) (w':=w2) hp (Same.refl _ _) hrv⟩
   ·rw[hu.block k (Nat.lt_of_lt_of_le hk hu1.size) (by omega)]
    exact hu1.block k hk (by rintro(h | h);exact h;omega)
   ·obtain⟨h3,h4⟩:=q3.same.c b o u h1 h2
    have hbl:=World.block_lt_of_cell? w _ h2
    exact⟨h3,hu.cell h4 (by dsimp only at*;omega)⟩
  ·exact hr.elim
 cases e with
 | normal=>exact fin q1
 | ret=>exact fin q1
 | exit id=>exact q1.elim
 | goto l=>exact q1.elim
 | panic ch=>exact q1.elim
 | outgrown=>exact q1.elim
theorem enter_of{f:FuncId}(h:((P.funcs[f]?).map fun fn=>fn.name== "runtime.NumGoroutine" ||fn.body.isNone)=some false)(vs:Array Value)(w:World):(callFunc f vs).run P w=.ok (.enter f vs) w:=by
 cases hf:P.funcs[f]? with
 | none=>rw[hf] at h;cases h
 | some fn=>
  rw[hf] at h
  simp only[Option.map_some,Option.some.injEq,Bool.or_eq_false_iff] at h
  unfold callFunc
  simp only[Sem.run_bind,run_program,Result.andThen_ok,hf,h.1,h.2,Bool.false_eq_true,if_false]
  rfl
def bodyOf(fn:Func):Code:=match fn.body with
 | some c=>c
 | none=>.skip
theorem fn_prog(hT:TabOk P tb)(hm:P.follows .mixedOrders=true){f:FuncId}(fn:Func){args:List T}{r:T}(hf:P.funcs[f]? =some fn)(hb:(fn.name== "runtime.NumGoroutine" ||fn.body.isNone)=false)(hn:Nat.ble args.length fn.ntmps=true)
  (h:aCode P X tb (bodyOf fn) (endQ tb fn.results.toList r) (St.head fn.ntmps args)):Fn P X f args r:=by
 cases hc:fn.body with
 | none=>rw[hc] at hb;simp at hb
 | some c=>
  refine fn_of hT hm hf hc (enter_of (by rw[hf,Option.map_some,hb])) hn ?_
  unfold bodyOf at h
  rw[hc] at h
  exact h
end Go.Proofs.YtknelogmocedeaaGreatDoor
namespace Go.Proofs.YtknelogmocedeaaGreatDoor
open Go.RowKit
set_option linter.unusedVariables false
variable {P : Program}
theorem lk_all{β:Type}{p:Nat×β→Bool}{l:List (Nat×β)}(h:l.all p=true){n:Nat}{x:β}(hx:lk n l=some x):p (n,x)=true:=List.all_eq_true.1 h _ (lk_mem hx)
def fldB(P:Program)(r:Nat×List (Nat×Nat×Bool)):Bool:=match P.underlying r.1 with
 | some (.struct fs)=>decide (fs.toList.map (fun f=>(f.offset,P.cellsOf f.type,aggB P f.type))=r.2)&&fs.toList.all (fun f=>(P.info? f.type).isSome&&(P.underlying f.type).isSome&&P.cellsOf f.type != 0)
 | _=>false
def sizB(P:Program)(r:Nat×(Nat×Bool)):Bool:=(P.underlying r.1).isSome&&aggB P r.1==r.2.2&&(r.2.2||r.2.1==1)&&r.2.1 != 0&&match P.info? r.1 with
 | some i=>i.size==r.2.1&&i.bytes≤100000&&match i.zero with
  | some z=>z.cells.size==r.2.1
  | none=>false
 | none=>false
def eltB(P:Program)(r:Nat×Nat):Bool:=match P.underlying r.1 with
 | some (.slice e)=>e==r.2
 | _=>false
def zeqB:V→Value→Bool
 | .int k n,.int k' n'=>k==k'&&n==n'
 | .bool b,.bool b'=>b==b'
 | .str s,.string s'=>decide (s=s')
 | .nils,.slice none 0 0=>true
 | .nili,.nilIface=>true
 | .raw (.pointer none),.pointer none=>true
 | .raw .nilFunc,.nilFunc=>true
 | .raw (.map none),.map none=>true
 | _,_=>false
theorem zeqB_eq{x:V}{u:Value}(h:zeqB x u=true):u=zv x∧zok x=true:=by
 unfold zeqB at h
 split at h <;> first | (cases h;done) | (exact⟨rfl,rfl⟩) | skip
 ·simp at h;obtain⟨rfl,rfl⟩:=h;exact⟨rfl,rfl⟩
 ·simp at h;subst h;exact⟨rfl,rfl⟩
 ·simp at h;subst h;exact⟨rfl,rfl⟩
def zerL:List V→List Value→Bool
 | [],[]=>true
 | x::xs,u::us=>zeqB x u&&zerL xs us
 | _,_=>false
theorem zerL_eq:∀{xs:List V} {us:List Value},zerL xs us=true→us=xs.map zv∧xs.all zok=true
 | [],[],_=>⟨rfl,rfl⟩
 | x::xs,u::us,h=>by
  rw[zerL,Bool.and_eq_true] at h
  obtain⟨h1,h2⟩:=zeqB_eq h.1
  obtain⟨h3,h4⟩:=zerL_eq h.2
  exact⟨by rw[h1,h3];rfl,by rw[List.all_cons,h2,h4];rfl⟩
 | [],_::_,h=>by cases h
 | _::_,[],h=>by cases h
def zerB(P:Program)(r:Nat×List V):Bool:=match P.info? r.1 with
 | some i=>match i.zero with
  | some v=>zerL r.2 v.cells.toList
  | none=>false
 | none=>false
def strB(P:Program)(r:Nat×Unit):Bool:=match P.underlying r.1 with
 | some .string=>true
 | _=>false
def booB(P:Program)(r:Nat×Unit):Bool:=match P.underlying r.1 with
 | some .bool=>true
 | _=>false
def intB(P:Program)(r:Nat×IntKind):Bool:=match P.underlying r.1 with
 | some (.int k)=>k==r.2
 | _=>false
def conB(P:Program)(r:Nat×Bool):Bool:=match P.underlying r.1 with
 | some (.interface _)=>r.2
 | some _=> !r.2
 | none=>false
def flatB(P:Program):Nat→List Field→List Bool→Bool
 | _,[],[]=>true
 | i,f::fs,k::ks=>f.name != "_" &&(f.offset==i&&((match P.underlying f.type with
  | some .string=>k
  | some .bool=> !k
  | _=>false)&&flatB P (i+1) fs ks))
 | _,_,_=>false
theorem flatB_ok{P:Program}:∀(i:Nat) (fs:List Field) (ks:List Bool),flatB P i fs ks=true→FlatOk P i fs ks
 | _,[],[],_=>trivial
 | i,f::fs,k::ks,h=>by
  rw[flatB,Bool.and_eq_true,Bool.and_eq_true,Bool.and_eq_true] at h
  obtain⟨h1,h2,h3,h4⟩:=h
  refine⟨by simpa using h1,by simpa using h2,?_,flatB_ok (i+1) fs ks h4⟩
  split at h3
  ·rename_i e;rw[e,if_pos h3]
  ·rename_i e;rw[e,if_neg (by cases k <;> simp_all)]
  ·cases h3
 | _,[],_::_,h=>by cases h
 | _,_::_,[],h=>by cases h
def eqsB(P:Program)(r:Nat×List Bool):Bool:=match P.underlying r.1 with
 | some (.struct fs)=> !P.stoodInHeld r.1&&(!P.eqGuardType P.depth r.1&&flatB P 0 fs.toList r.2)
 | _=>false
def zvalB:V→Value→Bool
 | .agg l,.agg cs=>zerL l cs.toList
 | x,v=>zeqB x v
theorem zvalB_eq{x:V}{v:Value}(h:zvalB x v=true):v=zval x∧zvok x=true:=by
 unfold zvalB at h
 split at h
 ·rename_i l cs
  obtain⟨h1,h2⟩:=zerL_eq h
  exact⟨by show Value.agg cs=.agg _;congr 1;rw[←h1],h2⟩
 ·obtain⟨h1,h2⟩:=zeqB_eq h
  cases x <;> first | exact⟨h1,h2⟩ | cases h2
def mpsB(P:Program)(r:Nat×(Option IntKind×V)):Bool:=match P.underlying r.1 with
 | some (.map k e)=>(match P.underlying k,r.2.1 with
  | some (.int d),some d'=>d==d'
  | some .string,none=>true
  | _,_=>false)&&match P.info? e with
  | some i=>match i.zero with
   | some v=>zvalB r.2.2 v
   | none=>false
  | none=>false
 | _=>false
def tabB(P:Program)(tb:Tab):Bool:=(tb.fld.all (fldB P)&&tb.siz.all (sizB P)&&tb.elt.all (eltB P)&&tb.zer.all (zerB P)&&tb.str.all (strB P)&&tb.boo.all (booB P)&&tb.ints.all (intB P)&&tb.con.all (conB P))&&tb.eqs.all (eqsB P)&&tb.mps.all (mpsB P)
theorem tabOk_of{tb:Tab}(h:tabB P tb=true):TabOk P tb:=by
 unfold tabB at h
 simp only[Bool.and_eq_true] at h
 obtain⟨⟨⟨⟨⟨⟨⟨⟨⟨h1,h2⟩,h3⟩,h4⟩,h5⟩,h6⟩,h7⟩,h8⟩,h9⟩,h10⟩:=h
 have siz:∀{t q},lk t tb.siz=some q→∃i z,P.info? t=some i∧i.size=q.1∧i.zero=some z∧z.cells.size=q.1∧i.bytes≤100000∧(P.underlying t).isSome=true∧aggB P t=q.2∧(q.2=false→q.1=1)∧q.1≠0:=fun {t q} ht=>by
  have:=lk_all h2 ht
  unfold sizB at this
  simp only[Bool.and_eq_true] at this
  obtain⟨⟨⟨⟨g1,g2⟩,g3⟩,g4⟩,g5⟩:=this
  split at g5
  ·rename_i i hi
   simp only[Bool.and_eq_true] at g5
   obtain⟨⟨g6,g7⟩,g8⟩:=g5
   split at g8
   ·rename_i z hz
    exact⟨i,z,hi,by simpa using g6,hz,by simpa using g8,by simpa using g7,g1,by simpa using g2,fun hq=>by simpa [hq] using g3,by simpa using g4⟩
   ·cases g8
  ·cases g5
 refine⟨fun {t q} ht=>?_,fun {t ks} ht=>?_,fun {t l} ht=>?_,fun {t q} ht=>?_,fun {t q} ht=>?_,fun {t e} ht=>?_,fun {t z} ht=>?_,fun {t} ht=>?_,fun {t} ht=>?_,fun {t k} ht=>?_,fun {t} ht=>?_,fun {t} ht=>?_⟩
 ·have:=lk_all h10 ht
  unfold mpsB at this
  split at this
  ·rename_i k e hke
   rw[Bool.and_eq_true] at this
   obtain⟨g1,g2⟩:=this
   split at g2
   ·rename_i i hi
    split at g2
    ·rename_i v hv
     obtain⟨z1,z2⟩:=zvalB_eq g2
     refine⟨k,e,i,hke,?_,hi,by rw[hv,z1],z2⟩
     split at g1
     ·rename_i d d' hd hd';dsimp only at hd';rw[hd,hd',show d=d' by simpa using g1]
     ·rename_i hd hd';dsimp only at hd';rw[hd,hd']
     ·cases g1
    ·cases g2
   ·cases g2
  ·cases this
 ·have:=lk_all h9 ht
  unfold eqsB at this
  split at this
  ·rename_i fs hfs
   rw[Bool.and_eq_true,Bool.and_eq_true] at this
   exact⟨fs,hfs,by simpa using this.1,by simpa using this.2.1,flatB_ok _ _ _ this.2.2⟩
  ·cases this
 ·have:=lk_all h1 ht
  unfold fldB at this
  split at this
  ·rename_i fs hfs
   rw[Bool.and_eq_true,decide_eq_true_eq] at this
   exact⟨fs,hfs,this.1,this.2⟩
  ·cases this
 ·obtain⟨i,z,a1,a2,a3,a4,a5,a6,a7,a8,a9⟩:=siz ht
  exact⟨by rw[a1];rfl,by simp[Program.cellsOf,a1,a2],a6,a7,a8,a9⟩
 ·obtain⟨i,z,a1,a2,a3,a4,a5,a6,a7,a8,a9⟩:=siz ht
  exact⟨i,z,a1,a3,a4,a5⟩
 ·have:=lk_all h3 ht
  unfold eltB at this
  split at this
  ·rename_i e' he
   rw[he,show e'=e by simpa using this]
  ·cases this
 ·have:=lk_all h4 ht
  unfold zerB at this
  split at this
  ·rename_i i hi
   split at this
   ·rename_i v hv
    obtain⟨q1,q2⟩:=zerL_eq this
    exact⟨i,v,hi,hv,q1,q2⟩
   ·cases this
  ·cases this
 ·obtain⟨u,hu⟩:=Option.isSome_iff_exists.1 ht
  have:=lk_all h5 hu
  unfold strB at this
  split at this
  ·assumption
  ·cases this
 ·obtain⟨u,hu⟩:=Option.isSome_iff_exists.1 ht
  have:=lk_all h6 hu
  unfold booB at this
  split at this
  ·assumption
  ·cases this
 ·have:=lk_all h7 ht
  unfold intB at this
  split at this
  ·rename_i k' hk
   rw[hk,show k'=k by simpa using this]
  ·cases this
 ·have:=lk_all h8 ht
  unfold conB at this
  split at this
  ·rename_i ms hms;exact⟨ms,hms⟩
  ·simp at this
  ·cases this
 ·have:=lk_all h8 ht
  unfold conB at this
  split at this
  ·simp at this
  ·rename_i d hne hd
   exact⟨d,hd,fun ms e=>hne ms e⟩
  ·cases this
end Go.Proofs.YtknelogmocedeaaGreatDoor
namespace Go.Proofs.YtknelogmocedeaaGreatDoor
open Go.RowKit
set_option linter.unusedVariables false
theorem cmp_split{p:Prop}{K:Bool→Prop}(h1:p→K true)(h2:¬p→K false):∀q:Bool,(q=true↔p)→K q:=fun q hq=>by
 cases q
 ·exact h2 (fun h=>by have:=hq.2 h;cases this)
 ·exact h1 (hq.1 rfl)
theorem cmp_true{p:Prop}{K:Bool→Prop}(hp:p)(h1:K true):∀q:Bool,(q=true↔p)→K q:=cmp_split (fun _=>h1) (fun h=>absurd hp h)
theorem cmp_false{p:Prop}{K:Bool→Prop}(hp:¬p)(h1:K false):∀q:Bool,(q=true↔p)→K q:=cmp_split (fun h=>absurd h hp) (fun _=>h1)
theorem cmp_bool{p:Prop}[Decidable p]{K:Bool→Prop}(h1:K (decide p)):∀q:Bool,(q=true↔p)→K q:=cmp_split (fun h=>by rw[decide_eq_true h] at h1;exact h1) (fun h=>by rw[decide_eq_false h] at h1;exact h1)
theorem wrap64{a:Int}(h1: -9223372036854775808≤a)(h2:a≤9223372036854775807):IntKind.i64.wrap a=a:=IntWalk.i64_in _ ⟨by omega,by omega⟩
theorem st_succ{k:Nat}{K:Int→Prop}(hk:k≤1000000000000)(h:K ((k+1:Nat):Int)):∃n,IntKind.i64.wrap ((k:Nat)+1)=n∧K n:=⟨_,wrap64 (by omega) (by omega),by rw[show((k:Int)+1)=((k+1:Nat):Int) by omega];exact h⟩
theorem st_min{a:Nat}(b:Nat){K:Int→Prop}(h:K ((min a b:Nat):Int)):∃n,(if(b:Int) < (a:Int) then(b:Int) else(a:Int))=n∧K n:=⟨_,rfl,by rw[show(if(b:Int) < (a:Int) then(b:Int) else(a:Int))=((min a b:Nat):Int) by split <;> omega];exact h⟩
theorem st_idx{α:Type}{xs:List α}{enc:α→List V}{i m:Nat}{K:List V→Prop}(h:i < xs.length)(hm:(enc (xs[i]'h)).length=m)(hK:K (enc (xs[i]'h))):∃c,(0:Int)≤(i:Nat)∧(xs.map enc)[((i:Nat):Int).toNat]? =some c∧c.length=m∧K c:=
 ⟨_,by omega,by rw[Int.toNat_natCast,List.getElem?_map,List.getElem?_eq_getElem h];rfl,hm,hK⟩
theorem st_cut{s:ByteArray}(a b:Nat){l h:Int}{K:ByteArray→Prop}(e1:l=a)(e2:h=b)(h1:a≤b)(h2:b≤s.size)(hK:K (s.extract a b)):∃a b:Nat,l=a∧h=b∧a≤b∧b≤s.size∧∃z,s.extract a b=z∧K z:=⟨a,b,e1,e2,h1,h2,_,rfl,hK⟩
theorem st_sub{xs:List (List V)}(a b:Nat){l h:Int}{m:Nat}{K:List (List V)→Prop}(e1:l=a)(e2:h=b)(h1:a≤b)(h2:b≤xs.length)(h3:∀c∈xs,c.length=m){z:List (List V)}(hz:(xs.take b).drop a=z)(hK:K z):∃a b:Nat,l=a∧h=b∧a≤b∧b≤xs.length∧(∀c∈xs,c.length=m)∧∃z,(xs.take b).drop a=z∧K z:=⟨a,b,e1,e2,h1,h2,h3,_,hz,hK⟩
theorem st_app{xs ys zs:List (List V)}{m:Nat}{K:List (List V)→Prop}(h1:xs.length+ys.length≤1000000000)(h2:∀c∈ys,c.length=m)(hz:xs++ys=zs)(hK:K zs):xs.length+ys.length≤1000000000∧(∀c∈ys,c.length=m)∧∃zs,xs++ys=zs∧K zs:=⟨h1,h2,_,hz,hK⟩
theorem map_take_succ{α:Type}{enc:α→List V}{xs:List α}{i:Nat}(h:i < xs.length):(xs.take i).map enc++[enc xs[i]]=(xs.take (i+1)).map enc:=by
 rw[List.take_succ_eq_append_getElem h,List.map_append];rfl
theorem st_call{f:FuncId}{P:Program}{X:En}{bs args:List T}{r:T}{K:T→Prop}(h:Fn P X f args r)(hl:LeTs bs args)(h1:T.pures args=true)(h2:r.pure=true)(hK:K r):∃(args:List T) (r:T),Cn P X f [] args r []∧LeTs bs args∧T.pures args=true∧r.pure=true∧K r:=⟨args,r,⟨rfl,h⟩,hl,h1,h2,hK⟩
end Go.Proofs.YtknelogmocedeaaGreatDoor
namespace Go.Proofs.YtknelogmocedeaaGreatDoor
open Go.RowKit
set_option linter.unusedVariables false
theorem add_add(a:Addr)(m n:Nat):(a.add m).add n=a.add (m+n):=by
 unfold Addr.add
 by_cases hm:m=0
 ·subst hm;simp
 ·by_cases hn:n=0
  ·subst hn;simp[hm]
  ·simp[hm,hn];omega
theorem add_plain'(b o n:Nat):(⟨b,o,none⟩:Addr).add n=⟨b,o+n,none⟩:=by unfold Addr.add;split <;> simp_all
abbrev View(α:Type):=World→(Nat→Prop)→List Value→α→Prop
structure View.Ok {α:Type}(k:Nat)(R:View α):Prop where
 mono:∀{w av av' vs x},R w av vs x→(∀b,av b→av' b)→R w av' vs x
 upd:∀{w w' S av vs x},R w av vs x→Upd S w w'→(∀b,av b→¬S b)→R w' av vs x
 bound:∀{w av vs x},R w av vs x→R w (fun b=>av b∧b < w.heap.size) vs x
 size:∀{w av vs x},R w av vs x→vs.length=k
 one:∀{w av vs x},R w av vs x→∀u∈vs,u.oneCell'=true
def VStr:View ByteArray:=fun _ _ vs x=>vs=[.string x]
def VInt:View Int:=fun _ _ vs x=>vs=[.int .i64 x]
def VBool:View Bool:=fun _ _ vs x=>vs=[.bool x]
theorem VStr.ok:View.Ok 1 VStr:=⟨fun h _=>h,fun h _ _=>h,fun h=>h,fun h=>by rw[h];rfl,fun h u hu=>by rw[h] at hu;obtain rfl:=List.mem_singleton.1 hu;rfl⟩
theorem VInt.ok:View.Ok 1 VInt:=⟨fun h _=>h,fun h _ _=>h,fun h=>h,fun h=>by rw[h];rfl,fun h u hu=>by rw[h] at hu;obtain rfl:=List.mem_singleton.1 hu;rfl⟩
theorem VBool.ok:View.Ok 1 VBool:=⟨fun h _=>h,fun h _ _=>h,fun h=>h,fun h=>by rw[h];rfl,fun h u hu=>by rw[h] at hu;obtain rfl:=List.mem_singleton.1 hu;rfl⟩
def VCat{α β:Type}(R:View α)(R':View β):View (α×β):=fun w av vs x=>∃v1 v2,vs=v1++v2∧R w av v1 x.1∧R' w av v2 x.2
theorem VCat.ok {α β:Type}{k k':Nat}{R:View α}{R':View β}(h:R.Ok k)(h':R'.Ok k'):(VCat R R').Ok (k+k') where
 mono:=fun⟨a,b,e,h1,h2⟩ hi=>⟨a,b,e,h.mono h1 hi,h'.mono h2 hi⟩
 upd:=fun⟨a,b,e,h1,h2⟩ hu hi=>⟨a,b,e,h.upd h1 hu hi,h'.upd h2 hu hi⟩
 bound:=fun⟨a,b,e,h1,h2⟩=>⟨a,b,e,h.bound h1,h'.bound h2⟩
 size:=fun⟨a,b,e,h1,h2⟩=>by rw[e,List.length_append,h.size h1,h'.size h2]
 one:=fun⟨a,b,e,h1,h2⟩ u hu=>by
  rw[e] at hu
  rcases List.mem_append.1 hu with hu | hu
  ·exact h.one h1 u hu
  ·exact h'.one h2 u hu
def VSlice{α:Type}(k:Nat)(R:View α):View (List α):=fun w av vs xs=>
 ∃A c,vs=[.slice A xs.length c]∧xs.length≤c∧(xs≠[]→∃b o,A=some ⟨b,o,none⟩∧av b∧b < w.heap.size∧
  ∀j x,xs[j]? =some x→∃ws,R w av ws x∧∀i u,ws[i]? =some u→w.cell? ⟨b,o+(j*k+i),none⟩=some u)
theorem VSlice.ok {α:Type}{k:Nat}{R:View α}(h:R.Ok k):(VSlice k R).Ok 1 where
 mono:=fun⟨A,c,e,hl,hx⟩ hi=>⟨A,c,e,hl,fun hn=>by
  obtain⟨b,o,e1,e2,e3,e4⟩:=hx hn
  exact⟨b,o,e1,hi _ e2,e3,fun j x hj=>by obtain⟨ws,a,b⟩:=e4 j x hj;exact⟨ws,h.mono a hi,b⟩⟩⟩
 upd:=fun⟨A,c,e,hl,hx⟩ hu hi=>⟨A,c,e,hl,fun hn=>by
  obtain⟨b,o,e1,e2,e3,e4⟩:=hx hn
  exact⟨b,o,e1,e2,Nat.lt_of_lt_of_le e3 hu.size,fun j x hj=>by
   obtain⟨ws,a,b⟩:=e4 j x hj
   exact⟨ws,h.upd a hu hi,fun i u hiu=>hu.cell (b i u hiu) (hi _ e2)⟩⟩⟩
 bound:=fun⟨A,c,e,hl,hx⟩=>⟨A,c,e,hl,fun hn=>by
  obtain⟨b,o,e1,e2,e3,e4⟩:=hx hn
  exact⟨b,o,e1,⟨e2,e3⟩,e3,fun j x hj=>by obtain⟨ws,a,b⟩:=e4 j x hj;exact⟨ws,h.bound a,b⟩⟩⟩
 size:=fun⟨A,c,e,hl,hx⟩=>by rw[e];rfl
 one:=fun⟨A,c,e,hl,hx⟩ u hu=>by rw[e] at hu;obtain rfl:=List.mem_singleton.1 hu;rfl
theorem View.Ok.below {α:Type}{k:Nat}{R:View α}(h:R.Ok k){w w':World}{av:Nat→Prop}{vs:List Value}{x:α}(hr:R w av vs x)(hb:Below w.heap.size w w'):R w' av vs x:=
 h.upd hr (Upd.of_below (S:=fun _=>False) hb) (fun _ _ h=>h)
theorem VSlice.nil {α:Type}(k:Nat)(R:View α)(w:World)(av:Nat→Prop):VSlice k R w av [.slice none 0 0] []:=⟨none,0,rfl,Nat.le_refl _,fun h=>absurd rfl h⟩
theorem VSlice.open {α:Type}{k:Nat}{R:View α}{w:World}{av:Nat→Prop}{v:Value}{xs:List α}(h:VSlice k R w av [v] xs):∃A c,v=.slice A xs.length c∧xs.length≤c∧(xs≠[]→∃b o,A=some ⟨b,o,none⟩∧av b∧b < w.heap.size∧
  ∀j x,xs[j]? =some x→∃ws,R w av ws x∧∀i u,ws[i]? =some u→w.cell? ⟨b,o+(j*k+i),none⟩=some u):=by
 obtain⟨A,c,e,hl,hx⟩:=h
 simp only[List.cons.injEq,and_true] at e
 exact⟨A,c,e,hl,hx⟩
theorem VSlice.drop {α:Type}{k:Nat}{R:View α}{w:World}{av:Nat→Prop}{b o c n:Nat}{xs:List α}(h:VSlice k R w av [.slice (some ⟨b,o,none⟩) n c] xs)(i:Nat)(hi:i≤xs.length):
  VSlice k R w av [.slice (some ⟨b,o+i*k,none⟩) (n - i) (c - i)] (xs.drop i):=by
 obtain⟨A',c',e,hl,hx⟩:=h
 simp only[List.cons.injEq,Value.slice.injEq,and_true] at e
 obtain⟨rfl,rfl,rfl⟩:=e
 refine⟨_,c - i,by rw[List.length_drop],by rw[List.length_drop];omega,fun hn=>?_⟩
 obtain⟨b',o',e1,e2,e3,e4⟩:=hx (by rintro rfl;simp at hn)
 simp only[Option.some.injEq,Addr.mk.injEq,and_true] at e1
 obtain⟨rfl,rfl⟩:=e1
 refine⟨b,_,rfl,e2,e3,fun j x hj=>?_⟩
 rw[List.getElem?_drop] at hj
 obtain⟨ws,a,q⟩:=e4 _ x hj
 exact⟨ws,a,fun i2 u hu=>by rw[show o+i*k+(j*k+i2)=o+((i+j)*k+i2) by rw[Nat.add_mul];omega];exact q i2 u hu⟩
theorem VSlice.take {α:Type}{k:Nat}{R:View α}{w:World}{av:Nat→Prop}{A:Option Addr}{c:Nat}{xs:List α}{n:Nat}(h:VSlice k R w av [.slice A n c] xs)(i:Nat)(hi:i≤xs.length)(c':Nat)(hc:i≤c'):
  VSlice k R w av [.slice A i c'] (xs.take i):=by
 obtain⟨A',c1,e,hl,hx⟩:=h
 simp only[List.cons.injEq,Value.slice.injEq,and_true] at e
 obtain⟨rfl,rfl,rfl⟩:=e
 refine⟨A,c',by rw[List.length_take,Nat.min_eq_left hi],by rw[List.length_take];omega,fun hn=>?_⟩
 obtain⟨b,o,e1,e2,e3,e4⟩:=hx (by rintro rfl;simp at hn)
 refine⟨b,o,e1,e2,e3,fun j x hj=>?_⟩
 rw[List.getElem?_take] at hj
 split at hj
 ·exact e4 j x hj
 ·cases hj
theorem VSlice.from {α:Type}{k:Nat}{R:View α}{w:World}{av:Nat→Prop}{A:Option Addr}{c n:Nat}{xs:List α}(h:VSlice k R w av [.slice A n c] xs)(i:Nat)(hi:i≤xs.length):VSlice k R w av [.slice (A.map fun x=>x.add (i*k)) (n - i) (c - i)] (xs.drop i):=by
 have h0:=h
 obtain⟨A',c',e,hl,hx⟩:=h
 simp only[List.cons.injEq,Value.slice.injEq,and_true] at e
 obtain⟨rfl,rfl,rfl⟩:=e
 by_cases hn:xs.drop i=[]
 ·rw[hn]
  have:xs.length≤i:=by
   have h2:=congrArg List.length hn
   rw[List.length_drop,List.length_nil] at h2
   omega
  exact⟨_,c - i,by rw[List.length_nil,Nat.sub_eq_zero_of_le this],Nat.zero_le _,fun h=>absurd rfl h⟩
 ·obtain⟨b,o,rfl,e2⟩:=hx (by rintro rfl;simp at hn)
  have:=h0.drop i hi
  simpa [add_plain'] using this
def OwnV{α:Type}(e:TypeId)(k:Nat)(R:View α)(w:World)(base:Nat)(av:Nat→Prop)(v:Value)(xs:List α):Prop:=
 ∃vss:List (List Value),vss.length=xs.length∧w.ownsRow base e k v xs.length vss.flatten∧∀(j:Nat) (x:α) (vs:List Value),xs[j]? =some x→vss[j]? =some vs→R w (fun b=>av b∧b < w.heap.size∧some b≠v.ownBlock) vs x
theorem OwnV.nil {α:Type}(e:TypeId)(k:Nat)(R:View α)(w:World)(base:Nat)(av:Nat→Prop):OwnV e k R w base av (.slice none 0 0) []:=⟨[],rfl,World.ownsRow_nil _ _ _ _,fun j x vs h=>by simp at h⟩
theorem OwnV.mono {α:Type}{e:TypeId}{k:Nat}{R:View α}(hR:R.Ok k){w:World}{base base':Nat}{av av':Nat→Prop}{v:Value}{xs:List α}(h:OwnV e k R w base av v xs)(hb:base'≤base)(hi:∀b,av b→av' b):OwnV e k R w base' av' v xs:=by
 obtain⟨vss,h1,⟨h2,h3⟩,h4⟩:=h
 refine⟨vss,h1,⟨h2,?_⟩,fun j x vs hx hv=>hR.mono (h4 j x vs hx hv) (fun b hb=>⟨hi b hb.1,hb.2⟩)⟩
 rcases h3 with h | ⟨g,cap,cur,e,hg,r⟩
 ·exact .inl h
 ·exact .inr ⟨g,cap,cur,e,Nat.le_trans hb hg,r⟩
theorem ownsRow_upd{w w':World}{base:Nat}{e:TypeId}{size n:Nat}{v:Value}{xs:List Value}(h:w.ownsRow base e size v n xs){S:Nat→Prop}(hu:Upd S w w')(hs:∀k,v.ownBlock=some k→¬S k):w'.ownsRow base e size v n xs:=by
 obtain⟨h1,h2⟩:=h
 refine⟨h1,?_⟩
 rcases h2 with h2 | ⟨g,cap,cur,rfl,hg,hh,r⟩
 ·exact .inl h2
 ·exact .inr ⟨g,cap,cur,rfl,hg,hu.blk hh (hs g rfl),r⟩
theorem OwnV.upd {α:Type}{e:TypeId}{k:Nat}{R:View α}(hR:R.Ok k){w w':World}{base:Nat}{av:Nat→Prop}{v:Value}{xs:List α}(h:OwnV e k R w base av v xs){S:Nat→Prop}(hu:Upd S w w')(hs:∀b,v.ownBlock=some b→¬S b)(ha:∀b,av b→b < w.heap.size→¬S b):
  OwnV e k R w' base av v xs:=by
 obtain⟨vss,h1,h2,h4⟩:=h
 refine⟨vss,h1,ownsRow_upd h2 hu hs,fun j x vs hx hv=>hR.mono (hR.upd (h4 j x vs hx hv) hu (fun b hb=>ha b hb.1 hb.2.1)) (fun b hb=>⟨hb.1,Nat.lt_of_lt_of_le hb.2.1 hu.size,hb.2.2⟩)⟩
theorem OwnV.below {α:Type}{e:TypeId}{k:Nat}{R:View α}(hR:R.Ok k){w w':World}{base:Nat}{av:Nat→Prop}{v:Value}{xs:List α}(h:OwnV e k R w base av v xs)(hb:Below w.heap.size w w'):OwnV e k R w' base av v xs:=
 h.upd hR (Upd.of_below (S:=fun _=>False) hb) (fun _ _ h=>h) (fun _ _ _ h=>h)
theorem OwnV.lt {α:Type}{e:TypeId}{k:Nat}{R:View α}{w:World}{base:Nat}{av:Nat→Prop}{v:Value}{xs:List α}(h:OwnV e k R w base av v xs):∀b,v.ownBlock=some b→base≤b∧b < w.heap.size:=by
 obtain⟨vss,h1,h2,h4⟩:=h
 exact h2.lt
theorem OwnV.shape {α:Type}{e:TypeId}{k:Nat}{R:View α}{w:World}{base:Nat}{av:Nat→Prop}{v:Value}{xs:List α}(h:OwnV e k R w base av v xs):∃A c,v=.slice A xs.length c∧xs.length≤c∧(xs≠[]→∃g,A=some ⟨g,0,none⟩):=by
 obtain⟨vss,h1,h2,h4⟩:=h
 rcases h2.2 with⟨rfl,h0⟩ | ⟨g,cap,cur,rfl,hb,hh,hnc,_⟩
 ·rw[h0];exact⟨none,0,rfl,Nat.le_refl _,fun h=>absurd (List.eq_nil_of_length_eq_zero h0) h⟩
 ·exact⟨some ⟨g,0,none⟩,cap,rfl,hnc,fun _=>⟨g,rfl⟩⟩
theorem flatten_get{k:Nat}:∀(vss:List (List Value)) (h:∀l∈vss,l.length=k) (j i:Nat) (l:List Value) (u:Value),vss[j]? =some l→l[i]? =some u→vss.flatten[j*k+i]? =some u
 | [],_,j,i,l,u,hj,hi=>by simp at hj
 | a::t,h,0,i,l,u,hj,hi=>by
  simp at hj;subst hj
  rw[List.flatten_cons,Nat.zero_mul,Nat.zero_add,List.getElem?_append_left ((List.getElem?_eq_some_iff.1 hi).1)];exact hi
 | a::t,h,j+1,i,l,u,hj,hi=>by
  have ha:=h a (by simp)
  rw[List.flatten_cons,show(j+1)*k+i=a.length+(j*k+i) by rw[ha,Nat.add_mul];omega,List.getElem?_append_right (by omega),Nat.add_sub_cancel_left]
  exact flatten_get t (fun l hl=>h l (by simp[hl])) j i l u (by simpa using hj) hi
theorem OwnV.sizes {α:Type}{k:Nat}{R:View α}(hR:R.Ok k){w:World}{av:Nat→Prop}{xs:List α}{vss:List (List Value)}(h1:vss.length=xs.length)(h4:∀(j:Nat) (x:α) (vs:List Value),xs[j]? =some x→vss[j]? =some vs→R w av vs x):∀l∈vss,l.length=k:=by
 intro l hl
 obtain⟨j,hj,e⟩:=List.mem_iff_getElem.1 hl
 exact hR.size (h4 j (xs[j]'(by omega)) l (List.getElem?_eq_getElem (by omega)) (by rw[←e];exact List.getElem?_eq_getElem hj))
theorem OwnV.view {α:Type}{e:TypeId}{k:Nat}{R:View α}(hR:R.Ok k){w:World}{base:Nat}{av:Nat→Prop}{v:Value}{xs:List α}(h:OwnV e k R w base av v xs):VSlice k R w (fun b=>(av b∨base≤b)∧b < w.heap.size) [v] xs:=by
 obtain⟨vss,h1,h2,h4⟩:=h
 have hs:=OwnV.sizes hR h1 h4
 rcases h2.2 with⟨rfl,h0⟩ | ⟨g,cap,cur,rfl,hb,hh,hnc,_⟩
 ·obtain rfl:xs=[]:=List.eq_nil_of_length_eq_zero h0
  exact VSlice.nil _ _ _ _
 ·refine⟨some ⟨g,0,none⟩,cap,rfl,hnc,fun _=>⟨g,0,rfl,⟨.inr hb,(Array.getElem?_eq_some_iff.1 hh).1⟩,(Array.getElem?_eq_some_iff.1 hh).1,fun j x hj=>?_⟩⟩
  have hjl:j < vss.length:=by rw[h1];exact(List.getElem?_eq_some_iff.1 hj).1
  exact⟨vss[j],hR.mono (h4 j x _ hj (List.getElem?_eq_getElem hjl)) (fun b hb=>⟨.inl hb.1,hb.2.1⟩),fun i u hu=>by rw[←add_plain'];exact h2.cells (g:=g) rfl (j*k+i) u (flatten_get vss hs j i _ u (List.getElem?_eq_getElem hjl) hu)⟩
def RowTy(P:Program)(t e:TypeId)(k:Nat):Prop:=P.underlying t=some (.slice e)∧∃i z,P.info? e=some i∧i.zero=some z∧i.size=k∧i.bytes≤100000∧z.cells.size=k∧0 < k
theorem rowTy_of{P:Program}{t e:TypeId}{k:Nat}(ht:P.underlying t=some (.slice e))(h:(P.info? e).map (fun i=>(i.zero.map (fun z=>z.cells.size),i.size,decide (i.bytes≤100000)))=some (some k,k,true))(hk:0 < k):RowTy P t e k:=by
 obtain⟨i0,hi,hz⟩:=Option.map_eq_some_iff.1 h
 simp only[Prod.mk.injEq,Option.map_eq_some_iff,decide_eq_true_eq] at hz
 obtain⟨⟨z,h1,h2⟩,h3,h4⟩:=hz
 exact⟨ht,i0,z,hi,h1,h3,h4,h2,hk⟩
theorem flatten_len{k:Nat}:∀(wss:List (List Value)) (hs:∀l∈wss,l.length=k),wss.flatten.length=wss.length*k
 | [],_=>by simp
 | a::t,h=>by
  rw[List.flatten_cons,List.length_append,flatten_len t (fun l hl=>h l (by simp[hl])),h a (by simp),List.length_cons,Nat.add_mul]
  omega
theorem flatten_of_cells{k:Nat}(hk:0 < k){w:World}{ad:Addr}:∀(wss:List (List Value)) (hs:∀l∈wss,l.length=k) (hc:∀j l,wss[j]? =some l→∀i u,l[i]? =some u→w.cell? (ad.add (j*k+i))=some u),∀j u,wss.flatten[j]? =some u→w.cell? (ad.add j)=some u:=by
 intro wss hs hc j u hj
 have hlt:=(List.getElem?_eq_some_iff.1 hj).1
 have hfl:=flatten_len wss hs
 have hq:j / k < wss.length:=by rw[Nat.div_lt_iff_lt_mul hk];omega
 have hr:j % k < (wss[j / k]).length:=by rw[hs _ (List.getElem_mem hq)];exact Nat.mod_lt _ hk
 have h1:=flatten_get wss hs (j / k) (j % k) _ _ (List.getElem?_eq_getElem hq) (List.getElem?_eq_getElem hr)
 have hd:j / k*k+j % k=j:=by rw[Nat.mul_comm];exact Nat.div_add_mod j k
 rw[hd,hj] at h1
 have h2:=hc (j / k) _ (List.getElem?_eq_getElem hq) (j % k) _ (List.getElem?_eq_getElem hr)
 rw[hd] at h2
 rw[h2];exact h1.symm
theorem append_view{P:Program}{α:Type}{R:View α}{t e:TypeId}{k:Nat}(hR:R.Ok k)(hT:RowTy P t e k)
  {w:World} {base:Nat} {av avs:Nat→Prop} {v xv:Value} {xs ys:List α} (hown:OwnV e k R w base av v xs) (hsrc:VSlice k R w avs [xv] ys) (hav:∀b,avs b→b < w.heap.size→av b∧some b≠v.ownBlock) (hn:xs.length+ys.length≤1000000000) (hb:base≤w.heap.size) (ty:TypeId):
  ∃v' w',(Builtin.append_ #[t,t] ty #[v,xv]).run P w=.ok v' w'∧OwnV e k R w' base av v' (xs++ys)∧w.grownBy w' v.ownBlock∧(v'.ownBlock=v.ownBlock∨v'.ownBlock=some w.heap.size):=by
 obtain⟨ht,i0,z,hi,hz0,hz1,hz2,hz3,hk⟩:=hT
 obtain⟨A,c,e1,hl,hx⟩:=hsrc
 simp only[List.cons.injEq,and_true] at e1
 subst e1
 by_cases hy:ys=[]
 ·subst hy
  obtain⟨B,cap,rfl,hle,_⟩:=hown.shape
  refine⟨_,w,run_append_nothing w t t ty e i0 ht hi B xs.length cap hle _ ?_,by rw[List.append_nil];exact hown,grown_refl _ _,.inl rfl⟩
  cases A with
  | none=>exact Src.ofNil w ht c
  | some ad=>exact Src.ofSlice w ht ad 0 c [] (by simp) (fun j u hu=>by simp at hu) (fun u hu=>by cases hu)
 ·obtain⟨sb,so,rfl,hav1,hlt1,hel0⟩:=hx hy
  generalize had:(⟨sb,so,none⟩:Addr)=ad
  have hel:∀j x,ys[j]? =some x→∃ws,R w avs ws x∧∀i u,ws[i]? =some u→w.cell? (ad.add (j*k+i))=some u:=fun j x hj=>by
   obtain⟨ws,h1,h2⟩:=hel0 j x hj
   exact⟨ws,h1,fun i u hu=>by rw[←had,add_plain'];exact h2 i u hu⟩
  have hws:∃wss:List (List Value),wss.length=ys.length∧∀(j:Nat) (y:α) (ws:List Value),ys[j]? =some y→wss[j]? =some ws→R w avs ws y∧∀i u,ws[i]? =some u→w.cell? (ad.add (j*k+i))=some u:=by
   have hch:∀j:Fin ys.length,∃ws,R w avs ws ys[j]∧∀i u,ws[i]? =some u→w.cell? (ad.add (j*k+i))=some u:=fun j=>hel j ys[j] (List.getElem?_eq_getElem j.2)
   refine⟨List.ofFn fun j=>(hch j).choose,by simp,fun j y ws hy hw=>?_⟩
   obtain⟨hj,rfl⟩:=List.getElem?_eq_some_iff.1 hy
   rw[List.getElem?_ofFn,dif_pos hj] at hw
   cases hw
   exact(hch ⟨j,hj⟩).choose_spec
  obtain⟨wss,hwl,hwe⟩:=hws
  have hsz:∀l∈wss,l.length=k:=OwnV.sizes hR hwl (fun j x vs h1 h2=>(hwe j x vs h1 h2).1)
  have hat:∀j (h:j < wss.length),R w avs wss[j] (ys[j]'(by omega))∧∀i u,wss[j][i]? =some u→w.cell? (ad.add (j*k+i))=some u:=fun j h=>hwe j _ _ (List.getElem?_eq_getElem _) (List.getElem?_eq_getElem h)
  have hfl:wss.flatten.length=ys.length*k:=by rw[flatten_len wss hsz,hwl]
  obtain⟨vss,h1,h2,h4⟩:=hown
  obtain⟨v',w',hr,g2,g3,_,g5⟩:=run_append_own_at (P:=P) w base t ty e i0 z k i0.bytes ht hi hz0 hz1 rfl hz3 hk v xs.length vss.flatten h2 ad ys.length c wss.flatten hfl
   (flatten_of_cells hk wss hsz (fun j l hj=>by obtain⟨hj',rfl⟩:=List.getElem?_eq_some_iff.1 hj;exact(hat j hj').2))
   (fun u hu=>by
    obtain⟨l,hl,hu⟩:=List.mem_flatten.1 hu
    obtain⟨j,hj,rfl⟩:=List.mem_iff_getElem.1 hl
    exact hR.one (hat j hj).1 u hu)
   (by unfold maxLen;omega) (by have:=Nat.mul_le_mul hn hz2;omega) hb
  have hu:Upd (fun b=>some b=v.ownBlock) w w':=⟨g3.os,g3.tape,g3.output,g3.size,fun i hi hn=>g3.block i hi hn⟩
  refine⟨v',w',hr,⟨vss++wss,by simp[h1,hwl],by rw[List.flatten_append,List.length_append];exact g2,fun j x vs hx hv=>?_⟩,g3,g5⟩
  have key:R w (fun b=>av b∧b < w.heap.size∧some b≠v.ownBlock) vs x:=by
   by_cases hj:j < xs.length
   ·rw[List.getElem?_append_left hj] at hx
    rw[List.getElem?_append_left (by omega)] at hv
    exact h4 j x vs hx hv
   ·rw[List.getElem?_append_right (by omega)] at hx
    rw[List.getElem?_append_right (by omega),h1] at hv
    exact hR.mono (hR.bound (hwe _ x vs hx hv).1) (fun b hb=>by have:=hav b hb.1 hb.2;exact⟨this.1,hb.2,this.2⟩)
  refine hR.mono (hR.upd key hu (fun b hb=>hb.2.2)) (fun b hb=>⟨hb.1,Nat.lt_of_lt_of_le hb.2.1 g3.size,?_⟩)
  rcases g5 with g | g
  ·rw[g];exact hb.2.2
  ·rw[g];intro e;have:=Option.some.inj e;omega
theorem wpList_append_view{P:Program}{α:Type}{R:View α}{t e:TypeId}{k:Nat}(hR:R.Ok k)(hT:RowTy P t e k){w:World}{ops:Array Oper}{rest:List Oper}{o:Oper}{a:Act}{Q:Exit→Act→World→Prop}(hgd:o.guard=none)(s x:Operand)
  (ho:o.op=.call {callee:=.builtin .append,args:=#[s,x],argTypes:=#[t,t]})
  {base:Nat} {av avs:Nat→Prop} {v xv:Value} {xs ys:List α} (hs:a.eval s=v) (hown:OwnV e k R w base av v xs) (hx:a.eval x=xv) (hsrc:VSlice k R w avs [xv] ys) (hav:∀b,avs b→b < w.heap.size→av b∧some b≠v.ownBlock) (hn:xs.length+ys.length≤1000000000) (hb:base≤w.heap.size)
  (h:∀v' w',OwnV e k R w' base av v' (xs++ys)→w.grownBy w' v.ownBlock→(v'.ownBlock=v.ownBlock∨v'.ownBlock=some w.heap.size)→wpList P ops Q rest (a.put o.dst v') w'):wpList P ops Q (o::rest) a w:=by
 refine wpList_plain hgd fun K hK=>?_
 obtain⟨v',w',hrun,h1,h2,h3⟩:=append_view hR hT hown hsrc hav hn hb o.type
 unfold Oper.wp
 simp[execOp,ho,resolve,invoke,builtin,hs,hx,hrun,Result.andThen]
 exact hK _ _ (h v' w' h1 h2 h3)
theorem flat_one{α β:Type}(f:α→β):∀zs:List α,zs.map f=(zs.map fun z=>[f z]).flatten
 | []=>rfl
 | z::t=>by rw[List.map_cons,List.map_cons,List.flatten_cons,←flat_one f t];rfl
theorem VSlice.lit {α:Type}{k:Nat}{R:View α}{w:World}{av:Nat→Prop}{cs:List Value}{e:TypeId}{wss:List (List Value)}{xs:List α}(hR:R.Ok k)(hl:wss.length=xs.length)(hc:cs=wss.flatten)(hel:∀(j:Nat) (x:α) (ws:List Value),xs[j]? =some x→wss[j]? =some ws→R w av ws x)(hav:av w.heap.size)(n c:Nat)(hn:n=xs.length)(hnc:xs.length≤c):
  VSlice k R (w.alloc (.cells cs.toArray e)) av [.slice (some ⟨w.heap.size,0,none⟩) n c] xs:=by
 subst hn hc
 refine⟨_,c,rfl,hnc,fun _=>⟨_,_,rfl,hav,by simp,fun j x hj=>?_⟩⟩
 have hj2:j < wss.length:=by rw[hl];exact(List.getElem?_eq_some_iff.1 hj).1
 refine⟨wss[j],hR.below (hel j x _ hj (List.getElem?_eq_getElem hj2)) (below_new _ _),fun i u hu=>?_⟩
 rw[Nat.zero_add]
 refine cell_new _ _ _ _ _ ?_
 rw[List.getElem?_toArray]
 exact flatten_get wss (OwnV.sizes hR hl hel) j i _ u (List.getElem?_eq_getElem hj2) hu
theorem below_of_own{w a b c:World}{v:Value}(h:Below w.heap.size w a)(hb:Below a.heap.size a b)(hg:b.grownBy c v.ownBlock)(hv:∀k,v.ownBlock=some k→w.heap.size≤k):Below w.heap.size w c:=by
 have h1:=below_then h hb
 exact⟨hg.os.trans h1.os,hg.tape.trans h1.tape,hg.output.trans h1.output,Nat.le_trans h1.size hg.size,fun i hi=>(hg.block i (Nat.lt_of_lt_of_le hi h1.size) (fun e=>by have:=hv i e.symm;omega)).trans (h1.block i hi)⟩
theorem cells_get{w:World}{base:Nat}{a:Addr}{n:Nat}{cs:List Value}(h:w.cells? base a n=some cs):base≤a.block∧cs.length=n∧∀i u,cs[i]? =some u→w.cell? (a.add i)=some u:=by
 unfold World.cells? at h
 split at h
 ·rename_i hb
  refine⟨hb,by simpa using mapM_some_length h,fun i u hu=>?_⟩
  have hi:i < n:=by have:=(List.getElem?_eq_some_iff.1 hu).1;rw[show cs.length=n by simpa using mapM_some_length h] at this;exact this
  have:=mapM_some_get h i i (by simp[hi])
  rw[this,hu]
 ·cases h
end Go.Proofs.YtknelogmocedeaaGreatDoor
namespace Go.Proofs.YtknelogmocedeaaGreatDoor
open Go.RowKit
structure Env(w:World)(p:Nat→Addr):Prop where
 gl:Globs w p
 ml:∃m,w.cell? ⟨9,0,none⟩=some (.int .i64 m)
 ut:Lib.Utf8Tabs 15 16 w
theorem tabs_below{w w':World}(h:Lib.Utf8Tabs 15 16 w)(hb:Below w.heap.size w w'):Lib.Utf8Tabs 15 16 w':=
 ⟨fun c hc=>cell_below (h.1 c hc) hb,fun i hi=>⟨cell_below (h.2 i hi).1 hb,cell_below (h.2 i hi).2 hb⟩⟩
theorem Env.below {w w':World}{p:Nat→Addr}(h:Env w p)(hb:Below w.heap.size w w'):Env w' p where
 gl:=h.gl.below hb
 ml:=h.ml.imp fun _ hm=>cell_below hm hb
 ut:=tabs_below h.ut hb
end Go.Proofs.YtknelogmocedeaaGreatDoor
namespace Go.Proofs.YtknelogmocedeaaGreatDoor
open Go.RowKit
set_option linter.unusedVariables false
def Lall(w:World):Lv:=fun b o=>∃u,w.cell? ⟨b,o,none⟩=some u
theorem rep_view{α:Type}{k:Nat}{enc:α→List V}{R:View α}{w:World}{L:Lv}(hk0:0 < k)(hk:∀x,(enc x).length=k)(hR:∀x cs,RepL w L (enc x) cs→R w (fun _=>True) cs x){xs:List α}{v:Value}(h:Rep w L (.sl (xs.map enc)) v):VSlice k R w (fun _=>True) [v] xs:=by
 obtain⟨A,c,rfl,hl,hx⟩:=h
 rw[List.length_map] at hl
 refine⟨A,c,by rw[List.length_map],hl,fun hn=>?_⟩
 obtain⟨b,o,e,rfl,hr⟩:=hx (by simpa using hn)
 have key:∀(j:Nat) (x:α),xs[j]? =some x→∃ws,R w (fun _=>True) ws x∧ws.length=k∧e=k∧∀(i:Nat) (u:Value),ws[i]? =some u→w.cell? ⟨b,o+(j*k+i),none⟩=some u:=fun j x hj=>by
  obtain⟨h1,h2⟩:=hr.get (i:=j) (c:=enc x) (by rw[List.getElem?_map,hj];rfl)
  obtain⟨cs,c1,c2,c3⟩:=h2.vals
  have he:e=k:=by rw[←h1,hk]
  subst he
  exact⟨cs,hR x cs c2,by rw[c1,hk],rfl,fun i u hu=>by rw[show o+(j*e+i)=o+j*e+i by omega];exact c3 i u hu⟩
 refine⟨b,o,rfl,trivial,?_,fun j x hj=>?_⟩
 ·obtain⟨x,t,rfl⟩:∃x t,xs=x::t:=by cases xs with
   | nil=>exact absurd rfl hn
   | cons x t=>exact⟨x,t,rfl⟩
  obtain⟨ws,h1,h2,h3,h4⟩:=key 0 x rfl
  obtain⟨u,hu⟩:∃u,ws[0]? =some u:=⟨_,List.getElem?_eq_getElem (by omega)⟩
  exact World.block_lt_of_cell? w _ (h4 0 u hu)
 ·obtain⟨ws,h1,_,_,h2⟩:=key j x hj
  exact⟨ws,h1,h2⟩
theorem Fn.of_plain {P:Program}{X:En}{f:FuncId}{args:List T}{r:V}(hen:∀(vs:Array Value) (w:World),(callFunc f vs).run P w=.ok (.enter f vs) w)(hr:zok r=true)
  (h:∀(w:World) (L:Lv) (vs:List Value),X.E w→RepTs P w ⟨L,fun _=>(0,0),fun _=>undef⟩ args vs→Calls P f vs.toArray w fun e w'=>e=.returned (zv r)∧Below w.heap.size w w'):Fn P X f args (.v r):=
 ⟨hen,fun w L vs hE hL ha=>(h w L vs hE ha).mono fun e w' ⟨he,hb⟩=>⟨zv r,L,he,hb,Same.of_below hb,.inl,fun hl=>let ⟨u,hu⟩:=hL hl;⟨u,cell_below hu hb⟩,by cases r <;> first | rfl | cases hr⟩⟩
def sen(p:Nat→Addr)(n:Nat):V:=.ifc 348 (.raw (.pointer (some (p n))))
def envX(p:Nat→Addr):En where
 E:=fun w=>Env w p
 Eb:=fun b=>b∈senNums∨(∃n,n∈senNums∧(p n).block=b)∨b=7∨b=9∨b=15∨b=16
 lt:=fun {w b} h hb=>by
  rcases hb with hb | ⟨n,hn,rfl⟩ | rfl | rfl | rfl | rfl
  ·have:=World.block_lt_of_cell? w _ (h.gl.cell b hb);simpa using this
  ·obtain⟨c,t,hc⟩:=h.gl.blk n hn;exact(Array.getElem?_eq_some_iff.1 hc).1
  ·have:=World.block_lt_of_cell? w _ h.gl.et;simpa using this
  ·obtain⟨m,hm⟩:=h.ml;have:=World.block_lt_of_cell? w _ hm;simpa using this
  ·have:=World.block_lt_of_cell? w _ (h.ut.1 0 (by omega));simpa using this
  ·have:=World.block_lt_of_cell? w _ (h.ut.2 0 (by omega)).1;simpa using this
 upd:=fun {S w w'} hu hS h=>by
  refine⟨h.gl.upd ⟨fun n hn=>⟨fun hs=>hS n hs (.inl hn),fun hs=>hS _ hs (.inr (.inl ⟨n,hn,rfl⟩))⟩,fun hs=>hS _ hs (.inr (.inr (.inl rfl)))⟩ hu,h.ml.imp fun m hm=>hu.cell hm (fun hs=>hS _ hs (.inr (.inr (.inr (.inl rfl))))),⟨fun c hc=>hu.cell (h.ut.1 c hc) (fun hs=>hS _ hs (.inr (.inr (.inr (.inr (.inl rfl)))))),fun i hi=>⟨hu.cell (h.ut.2 i hi).1 (fun hs=>hS _ hs (.inr (.inr (.inr (.inr (.inr rfl)))))),hu.cell (h.ut.2 i hi).2 (fun hs=>hS _ hs (.inr (.inr (.inr (.inr (.inr rfl))))))⟩⟩⟩
 gv:=fun n v=>n∈senNums∧v=sen p n
 gl:=fun {w gn v} h hg=>⟨.inl hg.1,_,h.gl.cell gn hg.1,by rw[hg.2];rfl,fun L=>by rw[hg.2];exact⟨_,rfl,rfl⟩⟩
end Go.Proofs.YtknelogmocedeaaGreatDoor
