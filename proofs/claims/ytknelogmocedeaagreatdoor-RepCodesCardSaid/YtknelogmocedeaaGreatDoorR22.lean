/- Several texts, one behind the other. The walk without memory: the contract of a function that gets pointers to variables, out of the walk of its body. Whatever program. The walk without memory: functions that leave a closure behind, which is run at their end. Whatever program. The walk without memory: functions that give variables of theirs away, in closures, to be read alone. Whatever program. dn: the walk over a text's pieces, as an iterator without memory. Conditions: at most 10^8 bytes; the sign is no backslash. dn: what a text says, part by part. -/
import Derived.Test.YtknelogmocedeaaGreatDoorR21
namespace Go.Proofs.YtknelogmocedeaaGreatDoor
open Go.RowKit
set_option linter.unusedVariables false
variable {P : Program} {X : En} {tb : Tab}
mutual
def shiftT(n:Nat):T→T
 | .ptr i o=>.ptr (n+i) o
 | .fn f caps=>.fn f (shiftTs n caps)
 | .tup l=>.tup (shiftTs n l)
 | .sub k m=>.sub k m
 | .un=>.un
 | .v x=>.v x
 | .own k e xs=>.own k e xs
 | .ro cs=>.ro cs
def shiftTs(n:Nat):List T→List T
 | []=>[]
 | t::r=>shiftT n t::shiftTs n r
end
def boxesAt:Nat→List (List T)→List (Nat×List T)
 | _,[]=>[]
 | n,cs::r=>(n,cs)::boxesAt (n+1) r
def shiftTss(n:Nat):List (List T)→List (List T)
 | []=>[]
 | l::r=>shiftTs n l::shiftTss n r
def St.headM (n:Nat)(args:List T)(css:List (List T)):St:={n:=n,env:=argsE 0 (shiftTs n args),bs:=boxesAt n (shiftTss n css),lv:=[]}
def bxEnd(st:St):Nat→List (List T)→Prop
 | _,[]=>True
 | n,cs::r=>(match lk n st.bs with
  | some c=>LeTs c cs
  | none=>False)∧bxEnd st (n+1) r
def endQM(tb:Tab)(rs:List ResultVar)(r:T)(n:Nat)(css':List (List T)):Exit→St→Prop
 | .normal,st=>match resTs tb st rs with
  | some ts=>resOk ts r∧bxEnd st n (shiftTss n css')
  | none=>False
 | .ret,st=>match resTs tb st rs with
  | some ts=>resOk ts r∧bxEnd st n (shiftTss n css')
  | none=>False
 | _,_=>False
def Gh.sh (g:Gh)(n:Nat):Gh:={L:=g.L,ρ:=fun i=>g.ρ (i - n),κ:=fun _=>undef}
theorem Gh.sh_at (g:Gh)(n i:Nat):(g.sh n).ρ (n+i)=g.ρ i:=by simp[Gh.sh]
mutual
theorem shiftT_rep{w:World}{g:Gh}{n:Nat}:∀(t:T) (v:Value),t.noK=true→RepT P w g t v→RepT P w (g.sh n) (shiftT n t) v
 | .un,_,_,_=>trivial
 | .v x,v,_,r=>r
 | .own _ _ _,_,h,_=>by cases h
 | .ptr i o,v,_,r=>by rw[shiftT];rw[RepT] at r ⊢;rw[Gh.sh_at];exact r
 | .ro cs,v,_,r=>r
 | .fn f caps,v,h,⟨cs,e,r⟩=>⟨cs,e,shiftTs_rep caps cs.toList h r⟩
 | .tup l,v,h,⟨cs,e,r⟩=>⟨cs,e,shiftTs_rep l cs.toList h r⟩
 | .sub _ _,_,h,_=>by cases h
theorem shiftTs_rep{w:World}{g:Gh}{n:Nat}:∀(l:List T) (vs:List Value),T.noKs l=true→RepTs P w g l vs→RepTs P w (g.sh n) (shiftTs n l) vs
 | [],_,_,r=>r
 | t::r,_,h,⟨u,us,e,h1,h2⟩=>by
  rw[T.noKs,Bool.and_eq_true] at h
  exact⟨u,us,e,shiftT_rep t u h.1 h1,shiftTs_rep r us h.2 h2⟩
end
theorem shiftTss_get{n:Nat}:∀{l:List (List T)} {k:Nat},(shiftTss n l)[k]? =(l[k]?).map (shiftTs n)
 | [],k=>by simp[shiftTss]
 | t::r,0=>rfl
 | t::r,k+1=>by rw[shiftTss,List.getElem?_cons_succ,List.getElem?_cons_succ];exact shiftTss_get
theorem shiftTs_get{n:Nat}:∀{l:List T} {k:Nat},(shiftTs n l)[k]? =(l[k]?).map (shiftT n)
 | [],k=>by simp[shiftTs]
 | t::r,0=>rfl
 | t::r,k+1=>by rw[shiftTs,List.getElem?_cons_succ,List.getElem?_cons_succ];exact shiftTs_get
theorem noKs_get:∀{l:List T} {k:Nat} {c:T},T.noKs l=true→l[k]? =some c→c.noK=true
 | [],_,_,_,h=>by simp at h
 | x::xs,0,c,h,hk=>by rw[T.noKs,Bool.and_eq_true] at h;simp at hk;subst hk;exact h.1
 | x::xs,k+1,c,h,hk=>by rw[T.noKs,Bool.and_eq_true] at h;exact noKs_get h.2 (k:=k) (by simpa using hk)
theorem noKss_get:∀{l:List (List T)} {k:Nat} {c:List T},T.noKss l=true→l[k]? =some c→T.noKs c=true
 | [],_,_,_,h=>by simp at h
 | x::xs,0,c,h,hk=>by rw[T.noKss,Bool.and_eq_true] at h;simp at hk;subst hk;exact h.1
 | x::xs,k+1,c,h,hk=>by rw[T.noKss,Bool.and_eq_true] at h;exact noKss_get h.2 (k:=k) (by simpa using hk)
mutual
theorem unshiftT{w:World}{g g':Gh}{n:Nat}(hL:g.L=g'.L)(hρ:∀j,g.ρ (n+j)=g'.ρ j):∀(t:T) (v:Value),t.noK=true→RepT P w g (shiftT n t) v→RepT P w g' t v
 | .un,_,_,_=>trivial
 | .v x,v,_,r=>by rw[shiftT] at r;rw[RepT] at r ⊢;rw[←hL];exact r
 | .own _ _ _,_,h,_=>by cases h
 | .ptr i o,v,_,r=>by rw[shiftT] at r;rw[RepT] at r ⊢;rw[hρ] at r;exact r
 | .ro cs,v,_,r=>by rw[shiftT] at r;rw[RepT] at r ⊢;rw[←hL];exact r
 | .fn f caps,v,h,⟨cs,e,r⟩=>⟨cs,e,unshiftTs hL hρ caps cs.toList h r⟩
 | .tup l,v,h,⟨cs,e,r⟩=>⟨cs,e,unshiftTs hL hρ l cs.toList h r⟩
 | .sub _ _,_,h,_=>by cases h
theorem unshiftTs{w:World}{g g':Gh}{n:Nat}(hL:g.L=g'.L)(hρ:∀j,g.ρ (n+j)=g'.ρ j):∀(l:List T) (vs:List Value),T.noKs l=true→RepTs P w g (shiftTs n l) vs→RepTs P w g' l vs
 | [],_,_,r=>r
 | t::r,_,h,⟨u,us,e,h1,h2⟩=>by
  rw[T.noKs,Bool.and_eq_true] at h
  exact⟨u,us,e,unshiftT hL hρ t u h.1 h1,unshiftTs hL hρ r us h.2 h2⟩
end
theorem boxesAt_lk:∀(n:Nat) (css:List (List T)) (i:Nat) (cs:List T),lk i (boxesAt n css)=some cs→∃j,i=n+j∧css[j]? =some cs
 | _,[],_,_,h=>by cases h
 | n,c::r,i,cs,h=>by
  rw[boxesAt] at h
  by_cases hi:i=n
  ·subst hi
   rw[lk_cons_eq] at h
   exact⟨0,rfl,by simpa using h⟩
  ·rw[lk_cons_ne _ _ hi] at h
   obtain⟨j,h1,h2⟩:=boxesAt_lk (n+1) r i cs h
   exact⟨j+1,by omega,by simpa using h2⟩
theorem bxEnd_get{st:St}:∀{css:List (List T)} {n j:Nat} {cs:List T},bxEnd st n css→css[j]? =some cs→∃c,lk (n+j) st.bs=some c∧LeTs c cs
 | [],_,_,_,_,h=>by simp at h
 | c::r,n,0,cs,h,hj=>by
  simp at hj;subst hj
  obtain⟨h1,_⟩:=h
  split at h1
  ·rename_i c0 hc;exact⟨c0,hc,h1⟩
  ·exact h1.elim
 | c::r,n,j+1,cs,h,hj=>by
  obtain⟨c0,h1,h2⟩:=bxEnd_get (n:=n+1) (j:=j) h.2 (by simpa using hj)
  exact⟨c0,by rw[show n+(j+1)=n+1+j by omega];exact h1,h2⟩
theorem headM{args:List T}{css:List (List T)}{n:Nat}{w:World}{g:Gh}{vs:List Value}(hn:Nat.ble args.length n=true)(hk:T.noKs args=true)(hp:T.noKss css=true)(hE:X.E w)(hL:∀{b o},g.L b o→∃u,w.cell? ⟨b,o,none⟩=some u)(hmb:MemB P X w g css)(hargs:RepTs P w g args vs):
  Hd P X w.heap.size (fun b=>∃j,j < css.length∧b=(g.ρ j).1) (St.headM n args css) {tmps:=vs.toArray++Array.replicate (n - vs.toArray.size) undef,defers:=[]} w (g.sh n):=by
 have hn':=Nat.le_of_ble_eq_true hn
 have hvl:=hargs.length
 have hsh:=shiftTs_rep (n:=n) args vs hk hargs
 have hbx:∀{i:Nat} {cs:List T},lk i (boxesAt n (shiftTss n css))=some cs→∃j cs0,i=n+j∧css[j]? =some cs0∧cs=shiftTs n cs0:=fun {i cs} hi=>by
  obtain⟨j,h1,h2⟩:=boxesAt_lk _ _ _ _ hi
  rw[shiftTss_get] at h2
  obtain⟨cs0,h3,h4⟩:=Option.map_eq_some_iff.1 h2
  exact⟨j,cs0,h1,h3,h4.symm⟩
 have hKc:∀{i:Nat},isK (boxesAt n (shiftTss n css)) i→∃j,i=n+j∧j < css.length:=fun {i} hi=>by
  unfold isK at hi
  obtain⟨cs,hcs⟩:=Option.isSome_iff_exists.1 hi
  obtain⟨j,cs0,h1,h2,_⟩:=hbx hcs
  exact⟨j,h1,(List.getElem?_eq_some_iff.1 h2).1⟩
 refine⟨by simp[St.headM];omega,fun t=>?_,⟨fun {i cs} hi {k c} hk'=>?_,fun {i} hi k=>?_,fun {i} hi k=>?_,fun {i} hi=>?_,fun {i} hi=>?_,fun {i} hi=>?_,fun {i j} hi hj hij=>?_,fun hi=>(by cases hi),fun hi=>(by cases hi),hL,fun {i} hi=>?_,fun hi=>(by cases hi)⟩,hE,Nat.le_refl _⟩
 ·have:=argsE_get 0 t hsh
  rw[if_neg (by omega),Nat.sub_zero] at this
  refine Eq.mpr ?_ this
  congr 1
  show((vs.toArray++Array.replicate (n - vs.toArray.size) undef).getD t undef)=_
  rw[Array.getD_eq_getD_getElem?,List.getD_eq_getElem?_getD]
  by_cases ht:t < vs.length
  ·rw[Array.getElem?_append_left (by simpa using ht)];simp
  ·rw[Array.getElem?_append_right (by simpa using ht),List.getElem?_eq_none (by omega)]
   by_cases h2:t - vs.toArray.size < n - vs.toArray.size
   ·rw[Array.getElem?_replicate,if_pos h2];rfl
   ·rw[Array.getElem?_replicate,if_neg h2]
 ·obtain⟨j,cs0,rfl,h2,rfl⟩:=hbx hi
  rw[shiftTs_get] at hk'
  obtain⟨c0,h3,rfl⟩:=Option.map_eq_some_iff.1 hk'
  obtain⟨u,hu,hr,ho⟩:=hmb.box h2 h3
  rw[Gh.sh_at]
  exact⟨u,hu,shiftT_rep c0 u (noKs_get (noKss_get hp h2) h3) hr,ho⟩
 ·obtain⟨j,rfl,hj⟩:=hKc hi
  rw[Gh.sh_at];exact hmb.frz hj k
 ·obtain⟨j,rfl,hj⟩:=hKc hi
  rw[Gh.sh_at];exact hmb.bxL hj k
 ·obtain⟨j,rfl,hj⟩:=hKc hi
  rw[Gh.sh_at];exact hmb.bxE hj
 ·obtain⟨j,rfl,hj⟩:=hKc hi
  rw[Gh.sh_at];exact .inl ⟨j,hj,rfl⟩
 ·obtain⟨j,rfl,hj⟩:=hKc hi
  rw[Gh.sh_at];exact hmb.lt hj
 ·obtain⟨i',rfl,hi'⟩:=hKc hi
  obtain⟨j',rfl,hj'⟩:=hKc hj
  rw[Gh.sh_at,Gh.sh_at];exact hmb.inj hi' hj' (fun e=>hij (by rw[e]))
 ·obtain⟨j,rfl,hj⟩:=hKc hi
  rw[Gh.sh_at];exact hmb.bc hj
theorem endM{css css':List (List T)}{n:Nat}{w w1 w2:World}{g g':Gh}{st':St}{a':Act}{base:Nat}{S:Nat→Prop}(hp':T.noKss css'=true)(hlen:css'.map List.length=css.map List.length)(q3:Stp X w.heap.size (fun b=>∃j,j < css.length∧b=(g.ρ j).1) n w (g.sh n) w1 g')(hu:Upd (fun b=>w.heap.size≤b) w1 w2)(hd2:Hd P X base S st' a' w2 g')(hbe:bxEnd st' n (shiftTss n css')):
  Upd (fun b=>∃j,j < css.length∧b=(g.ρ j).1) w w2∧Same g.L w g'.L w2∧(∀{b o},g'.L b o→g.L b o∨w.heap.size≤b)∧(∀{b o},g'.L b o→∃u,w2.cell? ⟨b,o,none⟩=some u)∧MemB P X w2 {g with L:=g'.L} css'∧∀{k:Nat} {o:Obj},w.heap[k]? =some o→o.isCells=false→w2.heap[k]? =some o:=by
 have hl':css'.length=css.length:=by have:=congrArg List.length hlen;simpa using this
 have hu1:=q3.upd
 have hrho:∀j,g'.ρ (n+j)=g.ρ j:=fun j=>by rw[q3.rho (Nat.le_add_right _ _),Gh.sh_at]
 have hbg:∀{j:Nat} {cs:List T},css'[j]? =some cs→∃c,lk (n+j) st'.bs=some c∧LeTs c (shiftTs n cs):=fun {j cs} hj=>bxEnd_get hbe (by rw[shiftTss_get,hj];rfl)
 have at_:∀{j:Nat},j < css'.length→isK st'.bs (n+j):=fun {j} hj=>by
  obtain⟨c0,h1,_⟩:=hbg (List.getElem?_eq_getElem hj)
  unfold isK;rw[h1];rfl
 refine⟨⟨hu.os.trans hu1.os,hu.tape.trans hu1.tape,hu.output.trans hu1.output,Nat.le_trans hu1.size hu.size,fun k hk hs=>?_⟩,⟨fun b o u h1 h2=>?_,fun k o h1 h2=>(hu.block k (Array.getElem?_eq_some_iff.1 (q3.same.m k o h1 h2)).1 (by have:=(Array.getElem?_eq_some_iff.1 h1).1;omega)).trans (q3.same.m k o h1 h2)⟩,fun {b o} h=>(q3.newL h).imp id And.left,hd2.mm.Lc,⟨fun {j cs} hj {k c} hk=>?_,fun {j} hj k=>?_,fun {j} hj k=>?_,fun {j} hj=>?_,fun {j} hj=>?_,fun {i j} hi hj hij=>?_,fun {j} hj=>?_⟩,fun {k o} hk hc=>?_⟩
 ·rw[hu.block k (Nat.lt_of_lt_of_le hk hu1.size) (by omega)]
  exact hu1.block k hk (by rintro(h | h);exact hs h;omega)
 ·obtain⟨h3,h4⟩:=q3.same.c b o u h1 h2
  have hbl:=World.block_lt_of_cell? w _ h2
  exact⟨h3,hu.cell h4 (by dsimp only at*;omega)⟩
 ·obtain⟨c0,h1,h2⟩:=hbg hj
  obtain⟨c1,h3,h4⟩:=h2.get (k:=k) (c:=shiftT n c) (by rw[shiftTs_get,hk];rfl)
  obtain⟨u,hu3,hr3,ho3⟩:=hd2.mm.box h1 h3
  rw[hrho] at hu3
  exact⟨u,hu3,unshiftT (g:=g') (g':={g with L:=g'.L}) rfl hrho c u (noKs_get (noKss_get hp' hj) hk) (LeT.rep _ _ _ h4 hr3),ho3⟩
 ·have:=hd2.mm.frz (at_ hj) k
  rwa [hrho] at this
 ·have:=hd2.mm.bxL (at_ hj) k
  rwa [hrho] at this
 ·have:=hd2.mm.bxE (at_ hj)
  rwa [hrho] at this
 ·have:=hd2.mm.lt (at_ hj)
  rwa [hrho] at this
 ·have:=hd2.mm.inj (at_ hi) (at_ hj) (fun e=>hij (by omega))
  rwa [hrho,hrho] at this
 ·have:=hd2.mm.bc (at_ hj)
  rwa [hrho] at this
 ·have h1:=q3.obj hk hc
  have hlt:=(Array.getElem?_eq_some_iff.1 hk).1
  rw[hu.block k (Nat.lt_of_lt_of_le hlt hu1.size) (by omega)]
  exact h1
theorem fnM_of(hT:TabOk P tb)(hm:P.follows .mixedOrders=true){f:FuncId}{fn:Func}{c:Code}{args:List T}{css css':List (List T)}{r:T}(hf:P.funcs[f]? =some fn)(hb:fn.body=some c)
  (hen:∀(vs:Array Value) (w:World),(callFunc f vs).run P w=.ok (.enter f vs) w) (hn:Nat.ble args.length fn.ntmps=true) (hk:T.noKs args=true) (hp:T.noKss css=true) (hp':T.noKss css'=true) (hlen:css'.map List.length=css.map List.length)
  (h:aCode P X tb c (endQM tb fn.results.toList r fn.ntmps css') (St.headM fn.ntmps args css)):FnM P X f css args r css':=by
 refine⟨hen,hlen,fun w g vs hE hL hmb hargs=>?_⟩
 have hd:=headM (n:=fn.ntmps) hn hk hp hE hL hmb hargs
 have hw:=code_wp hT hm c X ⟨fun _ h=>h,fun _ h=>h⟩ w.heap.size fn.ntmps _ Fence.wide 1 (.inl rfl) (fun _=>True) (fun _ _=>trivial) _ _ _ w _ (fun ch st h=>h.elim) (fun l hl=>by cases hl) h hd rfl
 refine callsIn_wide.1 (callsIn_of_wp_marks (n:=1) hf hb trivial (wpIn_mono hw ?_))
 rintro e a' w' ⟨st',g',q1,q2,q3,q4,q5,ms,q6,q7⟩
 rw[List.append_nil] at q6
 have fin:(match resTs tb st' fn.results.toList with | some ts=>resOk ts r∧bxEnd st' fn.ntmps (shiftTss fn.ntmps css') | none=>False)→LeavesInM Fence.wide 1 P fn a'.tmps (fun e w'=>∃v L',e=.returned v∧Upd (fun b=>∃j,j < css.length∧b=(g.ρ j).1) w w'∧Same g.L w L' w'∧(∀{b o},L' b o→g.L b o∨w.heap.size≤b)∧(∀{b o},L' b o→∃u,w'.cell? ⟨b,o,none⟩=some u)∧MemB P X w' {g with L:=L'} css'∧(∀{k:Nat} {o:Obj},w.heap[k]? =some o→o.isCells=false→w'.heap[k]? =some o)∧RepT P w' {g with L:=L'} r v) a'.defers .returning w':=fun hr=>by
  split at hr
  ·rename_i ts hts
   obtain⟨hr,hbe⟩:=hr
   rw[q6]
   refine leaves_marks hT hE ms st' a' w' g' q2 q7 hts hr.i.1 fun v w2 hu hd2 hrv=>?_
   have hpv:=hr.i.2
   obtain⟨e1,e2,e3,e4,e5,e6⟩:=endM hp' hlen q3 hu hd2 hbe
   exact⟨v,g'.L,rfl,e1,e2,e3,e4,e5,e6,RepT.pure (g:=g') (g':={g with L:=g'.L}) (w':=w2) hpv (Same.refl _ _) hrv⟩
  ·exact hr.elim
 cases e with
 | normal=>exact fin q1
 | ret=>exact fin q1
 | exit id=>exact q1.elim
 | goto l=>exact q1.elim
 | panic ch=>exact q1.elim
 | outgrown=>exact q1.elim
theorem fnM_prog(hT:TabOk P tb)(hm:P.follows .mixedOrders=true){f:FuncId}(fn:Func){args:List T}{css css':List (List T)}{r:T}(hf:P.funcs[f]? =some fn)(hb:(fn.name== "runtime.NumGoroutine" ||fn.body.isNone)=false)(hn:Nat.ble args.length fn.ntmps=true)(hk:T.noKs args=true)(hp:T.noKss css=true)(hp':T.noKss css'=true)(hlen:css'.map List.length=css.map List.length)
  (h:aCode P X tb (bodyOf fn) (endQM tb fn.results.toList r fn.ntmps css') (St.headM fn.ntmps args css)):FnM P X f css args r css':=by
 cases hc:fn.body with
 | none=>rw[hc] at hb;simp at hb
 | some c=>
  refine fnM_of hT hm hf hc (enter_of (by rw[hf,Option.map_some,hb])) hn hk hp hp' hlen ?_
  unfold bodyOf at h
  rw[hc] at h
  exact h
theorem st_callM{f:FuncId}{P:Program}{X:En}{st:St}{bs args:List T}{r:T}{K:T→St→Prop}(bx:List Nat){cs:List T}{css css':List (List T)}(h:FnM P X f (cs::css) args r css')(hn:nodupB bx=true)(hb:bxOk st bx bx (cs::css))(hl:ArgLes bx bs args)(h2:r.pure=true){Z:Prop}(hK:bsetsK bx st bx css' fun st'=>K r st'):
  (∃(bx:List Nat) (cs0:List T) (css:List (List T)) (args:List T) (r:T) (css':List (List T)),Cn P X f (cs0::css) args r css'∧nodupB bx=true∧bxOk st bx bx (cs0::css)∧ArgLes bx bs args∧r.pure=true∧bsetsK bx st bx css' fun st'=>K r st')∨Z:=
 .inl ⟨bx,cs,css,args,r,css',h,hn,hb,hl,h2,hK⟩
end Go.Proofs.YtknelogmocedeaaGreatDoor
namespace Go.Proofs.YtknelogmocedeaaGreatDoor
open Go.RowKit
set_option linter.unusedVariables false
variable {P : Program} {X : En} {tb : Tab}
theorem region_wp(hT:TabOk P tb)(hm:P.follows .mixedOrders=true){X0:En}{id:Nat}{ops:Array Oper}{draw:Bool}{X:En}(hX:X.Le X0){base N:Nat}{S:Nat→Prop}{F:Fence}{n:Nat}(hF:Open F){Wr:Nat→Prop}(hWr:∀(j:Nat) (o:Oper) (d:Nat),ops[j]? =some o→o.dst=some d→Wr d){Q:Exit→St→Prop}{st:St}{a:Act}{w:World}{g:Gh}{R:Exit→Act→World→Prop}
  (fin:∀a' w' st' g',Q .normal st'→Hd P X base S st' a' w' g'→Stp X base S N w g w' g'→a'.defers=a.defers→st'.n=N→(∀t,¬Wr t→a'.tmps.getD t undef=a.tmps.getD t undef)→R .normal a' w') (hp:∀c a w,¬R (.panic c) a w)
  (h:aCode P X0 tb (.region id ops draw) Q st) (hd:Hd P X base S st a w g) (hn:st.n=N):(Code.region id ops draw).wpIn F n P R a w:=by
 cases draw with
 | false=>
  refine wpIn_region ?_
  rw[List.range_eq_range']
  unfold aCode at h
  dsimp only at h
  split at h
  rotate_left
  ·have:=lit_none (n:=n) (Q:=R) hX hF hT hWr (K:=Q .normal) (M:=ops.size) (Nat.le_refl _) (tl:=[]) (fun a' w' st' g' hq h=>fin a' w' st' g' hq h.hd h.stp h.df h.n h.kp) ops.size 0 st a w g (by omega) (by rw[List.take_of_length_le (by rw[Array.length_toList];exact Nat.le_refl _)];exact h) ⟨hd,Stp.refl _ _ _ _ _ _,rfl,hn,fun _ _=>rfl⟩
   rw[List.append_nil] at this
   exact this
  exact ops_wp hX hF hT (K:=Q .normal) (a0:=a) (w0:=w) (g0:=g) hWr fin ops.size 0 st a w g (by omega) h hd (Stp.refl _ _ _ _ _ _) rfl hn (fun _ _=>rfl)
 | true=>
  obtain⟨sch0,hok,hs⟩:=h
  generalize sch0.getD (List.range ops.size)=sch at hok hs
  unfold regionOk at hok
  simp only[Bool.and_eq_true] at hok
  obtain⟨⟨⟨o0,o1⟩,o2⟩,o3⟩:=hok
  refine wpIn_region_draw fun t=>?_
  simp only[Region.schedule,hm,Bool.true_or,if_true]
  have lnk:Lnk P X base S N Wr a w g st a {w with drawn:=w.drawn+1} g:=⟨hd.drew,Stp.drew,rfl,hn,fun _ _=>rfl⟩
  have hqp:=hp
  have fin':∀a' w' st' g',Q .normal st'→Lnk P X base S N Wr a w g st' a' w' g'→R .normal a' w':=fun a' w' st' g' hq h=>fin a' w' st' g' hq h.hd h.stp h.df h.n h.kp
  have anyk:AnyK F n P ops (R) ops.size (Array.replicate ops.size false) g st.lv a {w with drawn:=w.drawn+1}:=by
   by_cases hm9:9999∈sch
   ·cases sch with
    | nil=>cases hm9
    | cons i r=>
     unfold takeOk at o3
     by_cases hi:i=9999
     ·subst hi
      unfold semSch at hs
      rw[show Nat.beq 9999 9999=true from rfl] at hs
      dsimp only at hs
      obtain⟨t,ht,st0,hs,hk⟩:=hs
      rw[Bool.and_eq_true] at ht
      rw[Array.length_toList,Array.toArray_toList] at ht
      exact(tr_anyK (n:=n) (Q:=R) hX hF hT o1 o2 (K:=fun st'=>St.le st' st0) hWr (fun a' w' st' g' hq h=>fin' a' w' st0 g' hk ⟨h.hd.le' hq,h.stp,h.df,hq.n.symm.trans h.n,h.kp⟩) hqp t _ st a _ g hs lnk).1 ops.size (Nat.le_of_ble_eq_true ht.1) ht.2
     ·exact(no9999 o3 hm9 hi).elim
   ·exact sch_anyK (n:=n) (Q:=R) hX hF hT o1 o2 (K:=Q .normal) hWr fin' hqp sch ops.size (Array.replicate ops.size false) st a _ g (Nat.le_of_ble_eq_true o0) hm9 o3 hs lnk
  have:=anyk.any
  exact wpAnyIn_sound ops.size t _ a _ this
def simpC:Code→Bool
 | .skip=>true
 | .region _ _ _=>true
 | .seq a b=> !isFrn a&&(simpC a&&simpC b)
 | .cond _ a b=>simpC a&&simpC b
 | .block _ b=>simpC b
 | .exit _=>true
 | .ret=>true
 | _=>false
def AftS(P:Program)(X:En)(base:Nat)(S:Nat→Prop)(N:Nat)(Wr:Nat→Prop)(a:Act)(w:World)(g:Gh)(Q:Exit→St→Prop):Exit→Act→World→Prop:=fun e a' w'=>
 ∃st' g',Q e st'∧Hd P X base S st' a' w' g'∧Stp X base S N w g w' g'∧st'.n=N∧a'.defers=a.defers∧∀t,¬Wr t→a'.tmps.getD t undef=a.tmps.getD t undef
theorem simp_wp(hT:TabOk P tb)(hm:P.follows .mixedOrders=true){X0:En}:∀(c:Code),simpC c=true→∀(X:En) (hX:X.Le X0) (base N:Nat) (S:Nat→Prop) (F:Fence) (n:Nat) (hF:Open F) (Wr:Nat→Prop) (hW:∀t∈codeW c,Wr t) (Q:Exit→St→Prop) (st:St) (a:Act) (w:World) (g:Gh),(∀ch st,¬Q (.panic ch) st)→aCode P X0 tb c Q st→Hd P X base S st a w g→st.n=N→c.wpIn F n P (AftS P X base S N Wr a w g Q) a w:=by
 intro c
 have out:∀{X:En} {base N:Nat} {S:Nat→Prop} {Wr:Nat→Prop} {Q:Exit→St→Prop} {e:Exit} {st:St} {a:Act} {w:World} {g:Gh},Q e st→Hd P X base S st a w g→st.n=N→AftS P X base S N Wr a w g Q e a w:=fun h hd hn=>⟨_,_,h,hd,Stp.refl _ _ _ _ _ _,hn,rfl,fun _ _=>rfl⟩
 induction c with
 | skip=>intro _ X hX base N S F n hF Wr hW Q st a w g hp h hd hn;exact wpIn_skip (out h hd hn)
 | exit id=>intro _ X hX base N S F n hF Wr hW Q st a w g hp h hd hn;exact wpIn_exit (out h hd hn)
 | ret=>intro _ X hX base N S F n hF Wr hW Q st a w g hp h hd hn;exact wpIn_ret (out h hd hn)
 | label l=>intro hs;cases hs
 | goto l=>intro hs;cases hs
 | scope b=>intro hs;cases hs
 | refuse s=>intro hs;cases hs
 | loop b=>intro hs;cases hs
 | rangeFunc fo ps x y=>intro hs;cases hs
 | region id ops draw=>
  intro _ X hX base N S F n hF Wr hW Q st a w g hp h hd hn
  exact region_wp hT hm hX hF (Wr:=Wr) (fun j o d hj ho=>hW d (List.mem_filterMap.2 ⟨o,by simpa using Array.mem_of_getElem? hj,ho⟩)) (fun a' w' st' g' h1 h2 h3 h4 h5 h6=>⟨st',g',h1,h2,h3,h5,h4,h6⟩) (fun c a w ⟨st',_,h,_⟩=>hp c st' h) h hd hn
 | seq x y ihx ihy=>
  intro hs X hX base N S F n hF Wr hW Q st a w g hp h hd hn
  rw[simpC,Bool.and_eq_true,Bool.and_eq_true] at hs
  unfold aCode at h
  split at h
  rotate_left
  ·rename_i hf;rw[hf] at hs;cases hs.1
  refine wpIn_seq (wpIn_mono (ihx hs.2.1 X hX base N S F n hF Wr (fun t ht=>hW t (List.mem_append_left _ ht)) (seqQ (fun st'=>aCode P X0 tb y Q st') Q) st a w g (fun ch st' hh=>hp ch st' hh) h hd hn) ?_)
  rintro e a1 w1 ⟨st',g',q1,q2,q3,q4,q5,q6⟩
  cases e with
  | normal=>
   refine wpIn_mono (ihy hs.2.2 X hX base N S F n hF Wr (fun t ht=>hW t (List.mem_append_right _ ht)) Q st' a1 w1 g' hp q1 q2 q4) ?_
   rintro e a2 w2 ⟨st2,g2,p1,p2,p3,p4,p5,p6⟩
   exact⟨st2,g2,p1,p2,q3.trans p3,p4,p5.trans q5,fun t ht=>(p6 t ht).trans (q6 t ht)⟩
  | exit id=>exact⟨st',g',q1,q2,q3,q4,q5,q6⟩
  | goto l=>exact⟨st',g',q1,q2,q3,q4,q5,q6⟩
  | ret=>exact⟨st',g',q1,q2,q3,q4,q5,q6⟩
  | panic ch=>exact⟨st',g',q1,q2,q3,q4,q5,q6⟩
  | outgrown=>exact⟨st',g',q1,q2,q3,q4,q5,q6⟩
 | cond c x y ihx ihy=>
  intro hs X hX base N S F n hF Wr hW Q st a w g hp h hd hn
  rw[simpC,Bool.and_eq_true] at hs
  unfold aCode at h
  have hc:=hd.ev c
  split at h
  ·rename_i hq
   rw[hq] at hc
   exact wpIn_cond_true hc (ihx hs.1 X hX base N S F n hF Wr (fun t ht=>hW t (List.mem_append_left _ ht)) Q st a w g hp h hd hn)
  ·rename_i hq
   rw[hq] at hc
   exact wpIn_cond_false hc (ihy hs.2 X hX base N S F n hF Wr (fun t ht=>hW t (List.mem_append_right _ ht)) Q st a w g hp h hd hn)
  ·exact h.elim
 | block id b ih=>
  intro hs X hX base N S F n hF Wr hW Q st a w g hp h hd hn
  refine wpIn_block (wpIn_mono (ih hs X hX base N S F n hF Wr hW (blockQ id Q) st a w g (fun ch st' hh=>hp ch st' hh) h hd hn) ?_)
  rintro e a1 w1 ⟨st',g',q1,q2⟩
  cases e with
  | exit j=>
   unfold blockQ at q1
   dsimp only at q1
   split at q1
   ·rename_i hb
    have:j=id:=Nat.eq_of_beq_eq_true hb
    simp only[Exit.inBlock,this,if_true]
    exact⟨st',g',q1,q2⟩
   ·rename_i hb
    have:j≠id:=fun e=>by rw[e,Nat.beq_refl] at hb;cases hb
    simp only[Exit.inBlock,this,if_false]
    exact⟨st',g',q1,q2⟩
  | normal=>exact⟨st',g',q1,q2⟩
  | goto l=>exact⟨st',g',q1,q2⟩
  | ret=>exact⟨st',g',q1,q2⟩
  | panic ch=>exact⟨st',g',q1,q2⟩
  | outgrown=>exact⟨st',g',q1,q2⟩
def FnD(P:Program)(X:En)(f:FuncId)(css:List (List T))(args:List T)(css':List (List T)):Prop:=(∀(vs:Array Value) (w:World),(callFunc f vs).run P w=.ok (.enter f vs) w)∧css'.map List.length=css.map List.length∧∀(u:FrameMode) (w:World) (g:Gh) (vs:List Value),X.E w→(∀{b o},g.L b o→∃u,w.cell? ⟨b,o,none⟩=some u)→MemB P X w g css→RepTs P w g args vs→
 CallsDIn Fence.wide 0 P f vs.toArray u w fun e u' w'=>u'=u∧∃v L',e=.returned v∧Upd (fun b=>∃j,j < css.length∧b=(g.ρ j).1) w w'∧Same g.L w L' w'∧(∀{b o},L' b o→g.L b o∨w.heap.size≤b)∧(∀{b o},L' b o→∃u,w'.cell? ⟨b,o,none⟩=some u)∧MemB P X w' {g with L:=L'} css'∧(∀{k:Nat} {o:Obj},w.heap[k]? =some o→o.isCells=false→w'.heap[k]? =some o)
def endD(n:Nat)(css':List (List T)):Exit→St→Prop
 | .normal,st=>bxEnd st n (shiftTss n css')
 | .ret,st=>bxEnd st n (shiftTss n css')
 | _,_=>False
theorem fnD_prog(hT:TabOk P tb)(hm:P.follows .mixedOrders=true){f:FuncId}(fn:Func){args:List T}{css css':List (List T)}(hf:P.funcs[f]? =some fn)(hb:(fn.name== "runtime.NumGoroutine" ||fn.body.isNone)=false)(hs:simpC (bodyOf fn)=true)(hres:fn.results.isEmpty=true)(hn:Nat.ble args.length fn.ntmps=true)(hk:T.noKs args=true)(hp:T.noKss css=true)(hp':T.noKss css'=true)(hlen:css'.map List.length=css.map List.length)
  (h:aCode P X tb (bodyOf fn) (endD fn.ntmps css') (St.headM fn.ntmps args css)):FnD P X f css args css':=by
 cases hc:fn.body with
 | none=>rw[hc] at hb;simp at hb
 | some c=>
  have hbd:bodyOf fn=c:=by unfold bodyOf;rw[hc]
  rw[hbd] at hs h
  refine⟨enter_of (by rw[hf,Option.map_some,hb]),hlen,fun u w g vs hE hL hmb hargs=>?_⟩
  have hd:=headM (n:=fn.ntmps) hn hk hp hE hL hmb hargs
  have hw:=simp_wp hT hm c hs X ⟨fun _ h=>h,fun _ h=>h⟩ w.heap.size fn.ntmps _ Fence.wide 0 (.inl rfl) (fun _=>True) (fun _ _=>trivial) _ _ _ w _ (fun ch st h=>h.elim) h hd rfl
  refine callsDIn_of_wp hf hc trivial (R:=fun e w'=>∃v L',e=.returned v∧Upd (fun b=>∃j,j < css.length∧b=(g.ρ j).1) w w'∧Same g.L w L' w'∧(∀{b o},L' b o→g.L b o∨w.heap.size≤b)∧(∀{b o},L' b o→∃u,w'.cell? ⟨b,o,none⟩=some u)∧MemB P X w' {g with L:=L'} css'∧(∀{k:Nat} {o:Obj},w.heap[k]? =some o→o.isCells=false→w'.heap[k]? =some o)) (wpIn_mono hw ?_)
  rintro e a' w' ⟨st',g',q1,q2,q3,q4,q5,q6⟩
  have fin:bxEnd st' fn.ntmps (shiftTss fn.ntmps css')→a'.defers=[]∧∃v,(results fn a'.tmps).run P w'=.ok v w'∧(∃v' L',Ending.returned v=.returned v'∧Upd (fun b=>∃j,j < css.length∧b=(g.ρ j).1) w w'∧Same g.L w L' w'∧(∀{b o},L' b o→g.L b o∨w.heap.size≤b)∧(∀{b o},L' b o→∃u,w'.cell? ⟨b,o,none⟩=some u)∧MemB P X w' {g with L:=L'} css'∧(∀{k:Nat} {o:Obj},w.heap[k]? =some o→o.isCells=false→w'.heap[k]? =some o)):=fun hbe=>by
   obtain⟨e1,e2,e3,e4,e5,e6⟩:=endM hp' hlen q3 (Upd.refl _ _) q2 hbe
   have hr0:fn.results=#[]:=by simpa using hres
   refine⟨q5,.tuple #[],?_,_,g'.L,rfl,e1,e2,e3,e4,e5,e6⟩
   unfold results
   rw[hr0]
   simp
  cases e with
  | normal=>exact fin q1
  | ret=>exact fin q1
  | exit id=>exact q1.elim
  | goto l=>exact q1.elim
  | panic ch=>exact q1.elim
  | outgrown=>exact q1.elim
def endQD(P:Program)(X:En)(tb:Tab)(d:Nat)(fc:FuncId)(Q:Exit→St→Prop):Exit→St→Prop
 | .normal,st=>match tget st.env d with
  | .fn f caps=>f=fc∧∃(bx:List Nat) (css:List (List T)) (args:List T) (css':List (List T)),FnD P X fc css args css'∧nodupB bx=true∧bxOk st bx bx css∧ArgLes bx caps args∧bsetsK bx st bx css' (Q .normal)
  | _=>False
 | .ret,st=>match tget st.env d with
  | .fn f caps=>f=fc∧∃(bx:List Nat) (css:List (List T)) (args:List T) (css':List (List T)),FnD P X fc css args css'∧nodupB bx=true∧bxOk st bx bx css∧ArgLes bx caps args∧bsetsK bx st bx css' (Q .ret)
  | _=>False
 | _,_=>False
theorem leaves_marks_k{base:Nat}{S:Nat→Prop}{fn:Func}{R:Ending→World→Prop}{w0:World}{tmps:Array Value}{ds:List Deferred}(hE0:X.E w0):∀(ms:List Nat) (st:St) (a:Act) (w:World) (g:Gh),Hd P X base S st a w g→MarksOk w0 w ms→(∀w',Upd (fun b=>w0.heap.size≤b) w w'→Hd P X base S st a w' g→(∀{k:Nat} {o:Obj},k < w0.heap.size→w.heap[k]? =some o→w'.heap[k]? =some o)→LeavesInM Fence.wide 1 P fn tmps R ds .returning w')→LeavesInM Fence.wide 1 P fn tmps R (marks ms++ds) .returning w
 | [],st,a,w,g,hd,hm,hR=>hR w (Upd.refl _ _) hd (fun _ h=>h)
 | m::ms,st,a,w,g,hd,hm,hR=>by
  obtain⟨h1,h2⟩:=hm.2 m (by simp)
  have hmE:¬X.Eb m:=fun hE=>by have:=X.lt hE0 hE;omega
  refine⟨by simp,.inl ⟨m,_,rfl,run_takeDeferred h2,?_⟩⟩
  have hnd:=List.nodup_cons.1 hm.1
  refine leaves_marks_k hE0 ms st a _ g (hd.putObj _ h2 rfl rfl hmE) ⟨hnd.2,fun r' hr'=>?_⟩ fun w' hu hd' ho=>hR w' (((putObj_upd w m _).mono fun k hk=>(by rw[hk];exact h1)).trans hu) hd' (fun {k o} hk hko=>ho hk (by rw[World.putObj_heap_other (by omega)];exact hko))
  obtain⟨h3,h4⟩:=hm.2 r' (by simp[hr'])
  refine⟨h3,?_⟩
  rw[World.putObj_heap_other (fun e=>hnd.1 (by rw[←e];exact hr'))]
  exact h4
theorem fnM_defer(hT:TabOk P tb)(hm:P.follows .mixedOrders=true){f:FuncId}(fn:Func){args:List T}{css css':List (List T)}{r:T}{i0 i1:Nat}{ops0:Array Oper}{oM oD:Oper}{rest:Code}{d:Nat}{fc:FuncId}{cvs:Array Operand}{cl:Call}
  (hf:P.funcs[f]? =some fn) (hb:(fn.name== "runtime.NumGoroutine" ||fn.body.isNone)=false) (hbody:bodyOf fn=.seq (.region i0 ops0 false) (.seq (.region i1 #[oM,oD] false) rest)) (hM:oM.op=.makeFunc (.func fc) #[] cvs) (hMd:oM.dst=some d) (hMg:oM.guard=none) (hD:oD.op=.defer cl) (hDc:cl.callee=.value (.tmp d)) (hDa:cl.args=#[]) (hDd:oD.dst=none) (hDg:oD.guard=none) (hdr:d∉codeW rest) (hdn:d < fn.ntmps)
  (hn:Nat.ble args.length fn.ntmps=true) (hk:T.noKs args=true) (hp:T.noKss css=true) (hp':T.noKss css'=true) (hlen:css'.map List.length=css.map List.length)
  (h:aCode P X tb (.region i0 ops0 false) (seqQ (fun st1=>semOp tb (Cn P X) oM st1 fun t st'=>aCode P X tb rest (endQD P X tb d fc (endQM tb fn.results.toList r fn.ntmps css')) (st'.put (some d) t)) (fun _ _=>False)) (St.headM fn.ntmps args css)):FnM P X f css args r css':=by
 cases hc:fn.body with
 | none=>rw[hc] at hb;simp at hb
 | some c=>
  have hbd:bodyOf fn=c:=by unfold bodyOf;rw[hc]
  rw[hbd] at hbody
  subst hbody
  refine⟨enter_of (by rw[hf,Option.map_some,hb]),hlen,fun w g vs hE hL hmb hargs=>?_⟩
  have hd:=headM (n:=fn.ntmps) hn hk hp hE hL hmb hargs
  have hXX:X.Le X:=⟨fun _ h=>h,fun _ h=>h⟩
  refine callsIn_wide.1 (callsIn_of_wp_marks (n:=1) hf hc trivial (wpIn_seq (wpIn_mono (simp_wp hT hm _ rfl X hXX w.heap.size fn.ntmps _ Fence.wide 1 (.inl rfl) (fun _=>True) (fun _ _=>trivial) _ _ _ w _ (fun ch st h=>h.elim) h hd rfl) ?_)))
  rintro e a1 w1 ⟨st1,g1,q1,q2,q3,q4,q5,_⟩
  cases e with
  | exit id=>exact q1.elim
  | goto l=>exact q1.elim
  | ret=>exact q1.elim
  | panic ch=>exact q1.elim
  | outgrown=>exact q1.elim
  | normal=>
   refine wpIn_seq (wpIn_region ?_)
   show wpOpsIn Fence.wide 1 P #[oM,oD] _ [0,1] a1 w1
   have q1':semOp tb (Cn P X) oM st1 (fun t st'=>aCode P X tb rest (endQD P X tb d fc (endQM tb fn.results.toList r fn.ntmps css')) (st'.put (some d) t)):=q1
   obtain⟨v1,t1,cells,_,m2,m3,m4,m5⟩:=ran_makeFunc hM q2 q1'
   have hcn:cells=[]:=Classical.byContradiction fun e=>by have:=m5.1 e;rw[hM] at this;cases this
   have hsz:a1.tmps.size=fn.ntmps:=by rw[q2.sz,q4]
   rw[wpOpsIn_cons]
   unfold wpOpIn
   simp only[show(#[oM,oD]:Array Oper)[0]? =some oM from rfl]
   rw[if_pos (by unfold Region.wanted;rw[hMg])]
   refine⟨fun f _=>trivial,?_⟩
   rw[Oper.semAt_plain _ _ _ (by rw[hM];intro c h;cases h),m2 w1 (fun p hp=>by rw[hcn] at hp;cases hp)]
   show wpOpsIn Fence.wide 1 P #[oM,oD] _ [1] (a1.put oM.dst v1) w1
   rw[hMd]
   have hfn:∃cs,v1=.func (.func fc) #[] cs:=by
    have hx:=m2 w1 (fun p hp=>by rw[hcn] at hp;cases hp)
    unfold execOp at hx
    simp only[hM,Instr.makeFunc,Array.map_empty,Sem.run_bind,Sem.run_pure,Result.andThen_ok] at hx
    injection hx with hx _
    injection hx with hx
    exact⟨_,hx.symm⟩
   obtain⟨cs,rfl⟩:=hfn
   have hed:(a1.put (some d) (.func (.func fc) #[] cs)).eval (.tmp d)=.func (.func fc) #[] cs:=by
    show(a1.tmps.setIfInBounds d _).getD d undef=_
    simp[show d < a1.tmps.size by omega]
   rw[wpOpsIn_cons]
   unfold wpOpIn
   simp only[show(#[oM,oD]:Array Oper)[1]? =some oD from rfl]
   rw[if_pos (by unfold Region.wanted;rw[hDg])]
   refine⟨fun f _=>trivial,?_⟩
   have hrun:(Oper.semAt Fence.wide.round (a1.put (some d) (.func (.func fc) #[] cs)).eval oD).run P w1=.ok (.defer {target:=.fn (.func fc) cs,args:=#[]}) w1:=by
    show(execOp _ oD).run P w1=_
    unfold execOp
    simp only[hD,resolve,hDc,hed,hDa,Deferred.ofValue,Sem.run_bind,Sem.run_pure,Result.andThen_ok,Array.map_empty,Array.append_empty]
   rw[hrun]
   show rest.wpIn Fence.wide 1 P _ (({a1.put (some d) (.func (.func fc) #[] cs) with defers:=_}:Act).put oD.dst undef) w1
   rw[hDd]
   show rest.wpIn Fence.wide 1 P _ {a1.put (some d) (.func (.func fc) #[] cs) with defers:={target:=.fn (.func fc) cs,args:=#[]}::(a1.put (some d) (.func (.func fc) #[] cs)).defers} w1
   have hd2:=q2.put (some d) m3
   have hd3:Hd P X w.heap.size (fun b=>∃j,j < css.length∧b=(g.ρ j).1) (st1.put (some d) t1) {a1.put (some d) (.func (.func fc) #[] cs) with defers:={target:=.fn (.func fc) cs,args:=#[]}::(a1.put (some d) (.func (.func fc) #[] cs)).defers} w1 g1:=⟨hd2.sz,hd2.env,hd2.mm,hd2.E,hd2.le⟩
   have hw:=code_wp hT hm rest X hXX w.heap.size fn.ntmps _ Fence.wide 1 (.inl rfl) (fun t=>t∈codeW rest) (fun _ h=>h) _ _ _ w1 _ (fun ch st h=>h.elim) (fun l hl=>by cases hl) m4 hd3 ((put_n _ _ _).trans q4)
   refine wpIn_mono hw ?_
   rintro e a2 w2 ⟨st2,g2,p1,p2,p3,p4,p5,ms,p6,p7⟩
   have hds:a2.defers=marks ms++[{target:=.fn (.func fc) cs,args:=#[]}]:=by
    rw[p6]
    show _++_::(a1.put (some d) _).defers=_
    rw[put_defers,q5]
   have hval:a2.eval (.tmp d)=.func (.func fc) #[] cs:=by
    show a2.tmps.getD d undef=_
    rw[p5 d hdr]
    exact hed
   have key:∀(ex:Exit),(match tget st2.env d with
     | .fn f caps=>f=fc∧∃(bx:List Nat) (css0:List (List T)) (args:List T) (css1:List (List T)),FnD P X fc css0 args css1∧nodupB bx=true∧bxOk st2 bx bx css0∧ArgLes bx caps args∧bsetsK bx st2 bx css1 (endQM tb fn.results.toList r fn.ntmps css' ex)
     | _=>False)→(∀st,endQM tb fn.results.toList r fn.ntmps css' ex st→match resTs tb st fn.results.toList with | some ts=>resOk ts r∧bxEnd st fn.ntmps (shiftTss fn.ntmps css') | none=>False)→
     LeavesInM Fence.wide 1 P fn a2.tmps (fun e w'=>∃v L',e=.returned v∧Upd (fun b=>∃j,j < css.length∧b=(g.ρ j).1) w w'∧Same g.L w L' w'∧(∀{b o},L' b o→g.L b o∨w.heap.size≤b)∧(∀{b o},L' b o→∃u,w'.cell? ⟨b,o,none⟩=some u)∧MemB P X w' {g with L:=L'} css'∧(∀{k:Nat} {o:Obj},w.heap[k]? =some o→o.isCells=false→w'.heap[k]? =some o)∧RepT P w' {g with L:=L'} r v) a2.defers .returning w2:=fun ex hq hres=>by
    split at hq <;> try exact hq.elim
    rename_i f' caps hfc
    obtain⟨rfl,bx,css0,args0,css1,⟨hen,hlen0,hcall⟩,hnb,hbx,hle,hK⟩:=hq
    obtain⟨hK,hbl⟩:=bsetsK_eq hK
    have hres':=hres _ hK
    split at hres' <;> try exact hres'.elim
    rename_i ts hts
    obtain⟨hro,hbe⟩:=hres'
    rw[hds]
    refine leaves_marks_k (w0:=w1) q2.E ms st2 a2 w2 g2 p2 p7 fun w3 hu3 hdX ho3=>?_
    have hev:=hdX.env d
    rw[hfc,hval] at hev
    obtain⟨cs',he,hcaps⟩:=hev
    have hcs:cs'=cs:=by injection he with _ _ h3;exact h3.symm
    subst hcs
    have hargs0:=ArgLes.rep (P:=P) _ _ _ hle hcaps
    refine⟨by simp,.inr ⟨by simp[Fence.wide],.func f',cs',f',cs',rfl,?_,fun _ _=>trivial,?_⟩⟩
    ·show(invoke (.fn (.func f') cs') #[]).run P w3=_
     simp only[invoke]
     rw[hen]
     simp
    refine CallsDIn.mono (hcall .returning w3 (g2.of bx) cs'.toList hdX.E hdX.mm.Lc (hdX.passed hXX hnb hbx) hargs0) ?_
    rintro e u' w4 ⟨rfl,v,L',rfl,hu4,hsm,hnw,hlt,hm4,hob⟩
    obtain⟨b1,b2⟩:=hdX.back (N:=fn.ntmps) hnb hbx hlen0 hu4 hsm hnw hlt hm4 hob
    show LeavesInM Fence.wide 1 P fn a2.tmps _ [] (settle .returning) w4
    obtain⟨v5,r1,r2⟩:=results_run hT b1 hts hro.i.1
    have r3:=hro.i.2
    have st3:Stp X w.heap.size (fun b=>∃j,j < css.length∧b=(g.ρ j).1) fn.ntmps w (g.sh fn.ntmps) w3 g2:=by
     have h12:=q3.trans p3
     have hle12:=q3.upd.size
     refine⟨⟨hu3.os.trans h12.upd.os,hu3.tape.trans h12.upd.tape,hu3.output.trans h12.upd.output,Nat.le_trans h12.upd.size hu3.size,fun k hk hs=>?_⟩,⟨fun b o u h1 h2=>?_,fun k o h1 h2=>?_⟩,h12.newL,h12.rho,fun {k o} h1 h2=>?_⟩
     ·have hs2:=p3.upd.size
      rw[hu3.block k (by omega) (by omega)]
      exact h12.upd.block k hk hs
     ·obtain⟨h3,h4⟩:=h12.same.c b o u h1 h2
      have hbl:=World.block_lt_of_cell? w _ h2
      exact⟨h3,hu3.cell h4 (by dsimp only at*;omega)⟩
     ·have hlt1:=(Array.getElem?_eq_some_iff.1 h1).1
      exact ho3 (by omega) (h12.same.m k o h1 h2)
     ·have hlt1:=(Array.getElem?_eq_some_iff.1 h1).1
      exact ho3 (by omega) (h12.obj h1 h2)
    obtain⟨e1,e2,e3,e4,e5,e6⟩:=endM hp' hlen (st3.trans b2) (Upd.refl _ _) b1 hbe
    exact⟨v5,r1,v5,L',rfl,e1,e2,e3,e4,e5,e6,RepT.pure (g:={g2 with L:=L'}) (g':={g with L:=L'}) (w':=w4) r3 (Same.refl _ _) r2⟩
   cases e with
   | normal=>exact key .normal p1 (fun st h=>h)
   | ret=>exact key .ret p1 (fun st h=>h)
   | exit id=>exact p1.elim
   | goto l=>exact p1.elim
   | panic ch=>exact p1.elim
   | outgrown=>exact p1.elim
end Go.Proofs.YtknelogmocedeaaGreatDoor
namespace Go.Proofs.YtknelogmocedeaaGreatDoor
open Go.RowKit
set_option linter.unusedVariables false
variable {P : Program} {X : En} {tb : Tab}
mutual
def PubT(st:St):T→T→Prop
 | .ptr i o,.ro cs=>∃l,lk i st.bs=some l∧toVs (l.drop o)=some cs
 | .fn f cs,.fn g ds=>f=g∧PubTs st cs ds
 | .v x,.v y=>x=y∨(x.nz=y∧y=y)
 | .ro a,.ro b=>a=b
 | _,_=>False
def PubTs(st:St):List T→List T→Prop
 | [],[]=>True
 | x::xs,y::ys=>PubT st x y∧PubTs st xs ys
 | _,_=>False
end
def Gh.pub (g:Gh)(st:St):Lv:=fun b o=>g.L b o∨∃i l,lk i st.bs=some l∧b=(g.ρ i).1∧(g.ρ i).2≤o∧o < (g.ρ i).2+l.length
theorem rep_one{w:World}{L:Lv}{x:V}{u:Value}(h:Rep w L x u)(ho:u.oneCell'=true):x.one=true:=by
 cases x with
 | agg l=>obtain⟨cs,rfl,_⟩:=h;cases ho
 | raw v=>rw[show u=v from h] at ho;exact ho
 | _=>rfl
theorem pub_same{w:World}{g:Gh}{st:St}:Same g.L w (g.pub st) w:=⟨fun b o u h1 h2=>⟨.inl h1,h2⟩,.refl _⟩
theorem toVs_get{l:List T}{cs:List V}{j:Nat}{x:V}(h:toVs l=some cs)(hx:cs[j]? =some x):∃t,l[j]? =some t∧t.toV=some x:=by
 induction l generalizing cs j with
 | nil=>cases h;simp at hx
 | cons t r ih=>
  unfold toVs at h
  split at h <;> try cases h
  rename_i y hy
  split at h <;> try cases h
  rename_i ys hys
  cases j with
  | zero=>simp at hx;subst hx;exact⟨t,rfl,hy⟩
  | succ j=>exact ih hys (by simpa using hx)
mutual
theorem PubT.rep {base:Nat}{S:Nat→Prop}{st:St}{a:Act}{w:World}{g:Gh}(hd:Hd P X base S st a w g):∀(t r:T) (v:Value),PubT st t r→RepT P w g t v→RepT P w ⟨g.pub st,fun _=>(0,0),fun _=>undef⟩ r v
 | .ptr i o,.ro cs,v,⟨l,h1,h2⟩,r=>by
  refine⟨(g.ρ i).1,(g.ρ i).2+o,r,RepC.of_get _ _ fun j x hx=>?_⟩
  obtain⟨t,ht,htx⟩:=toVs_get h2 hx
  rw[List.getElem?_drop] at ht
  obtain⟨u,hu,hr,ho⟩:=hd.mm.box h1 ht
  have hrx:=toV_rep hr htx
  refine⟨u,.inr ⟨i,l,h1,rfl,by omega,?_⟩,by rw[Nat.add_assoc];exact hu,rep_one hrx ho,Rep.mono pub_same _ _ hrx⟩
  have:=(List.getElem?_eq_some_iff.1 ht).1
  omega
 | .fn f cs,.fn g' ds,v,⟨h1,h2⟩,⟨us,e,r⟩=>by subst h1;exact⟨us,e,PubTs.rep hd cs ds us.toList h2 r⟩
 | .v x,.v y,v,h,r=>by
  rcases h with rfl | ⟨rfl,_⟩
  ·exact Rep.mono pub_same _ _ r
  ·exact nz_rep (Rep.mono pub_same _ _ r)
 | .ro a,.ro b,v,h,⟨b',o,e,r⟩=>by rw[PubT] at h;subst h;exact⟨b',o,e,RepC.mono pub_same b' a o r⟩
theorem PubTs.rep {base:Nat}{S:Nat→Prop}{st:St}{a:Act}{w:World}{g:Gh}(hd:Hd P X base S st a w g):∀(l m:List T) (vs:List Value),PubTs st l m→RepTs P w g l vs→RepTs P w ⟨g.pub st,fun _=>(0,0),fun _=>undef⟩ m vs
 | [],[],_,_,r=>r
 | x::xs,y::ys,_,⟨h1,h2⟩,⟨u,us,e,r,rs⟩=>⟨u,us,e,PubT.rep hd x y u h1 r,PubTs.rep hd xs ys us h2 rs⟩
 | [],_::_,_,h,_=>h.elim
 | _::_,[],_,h,_=>h.elim
end
def endP(tb:Tab)(rs:List ResultVar)(r:T):Exit→St→Prop
 | .normal,st=>match resTs tb st rs with
  | some [t]=>PubT st t r
  | _=>False
 | .ret,st=>match resTs tb st rs with
  | some [t]=>PubT st t r
  | _=>False
 | _,_=>False
theorem results_one(hT:TabOk P tb){base:Nat}{S:Nat→Prop}{st:St}{a:Act}{w:World}{g:Gh}(hd:Hd P X base S st a w g){fn:Func}{t:T}(h:resTs tb st fn.results.toList=some [t]):∃v,(results fn a.tmps).run P w=.ok v w∧RepT P w g t v:=by
 obtain⟨vs,h1,h2⟩:=resTs_rep hT hd h
 have hrun:(fn.results.mapM (fun x=>(match x with | .tmp t=>pure (a.tmps.getD t undef) | .cell y t=>do loadVar t (←asAddr (a.tmps.getD y undef)):Sem Value))).run P w=.ok vs.toArray w:=by
  rw[Array.mapM_eq_mapM_toList]
  simp only[Sem.run_map]
  exact congrArg (fun r=>Result.andThen r fun a w'=>Result.ok (List.toArray a) w') h1
 have hres:(results fn a.tmps).run P w=((fn.results.mapM (fun x=>(match x with | .tmp t=>pure (a.tmps.getD t undef) | .cell y t=>do loadVar t (←asAddr (a.tmps.getD y undef)):Sem Value))).run P w).andThen fun vs w'=>((pure (if h:vs.size=1 then vs[0] else .tuple vs)):Sem Value).run P w':=by
  unfold results
  rw[Sem.run_bind]
  rfl
 obtain⟨v,us,rfl,r1,r2⟩:=h2
 obtain rfl:us=[]:=r2
 exact⟨v,by rw[hres,hrun];rfl,r1⟩
theorem fnP_prog(hT:TabOk P tb)(hm:P.follows .mixedOrders=true){f:FuncId}(fn:Func){args:List T}{r:T}(hf:P.funcs[f]? =some fn)(hb:(fn.name== "runtime.NumGoroutine" ||fn.body.isNone)=false)(hs:simpC (bodyOf fn)=true)(hn:Nat.ble args.length fn.ntmps=true)
  (h:aCode P X tb (bodyOf fn) (endP tb fn.results.toList r) (St.head fn.ntmps args)):Fn P X f args r:=by
 cases hc:fn.body with
 | none=>rw[hc] at hb;simp at hb
 | some c=>
  have hbd:bodyOf fn=c:=by unfold bodyOf;rw[hc]
  rw[hbd] at hs h
  refine⟨enter_of (by rw[hf,Option.map_some,hb]),fun w L vs hE hL hargs=>?_⟩
  have hn':=Nat.le_of_ble_eq_true hn
  have hvl:=hargs.length
  have hd:Hd P X w.heap.size (fun _=>False) (St.head fn.ntmps args) {tmps:=vs.toArray++Array.replicate (fn.ntmps - vs.toArray.size) undef,defers:=[]} w ⟨L,fun _=>(0,0),fun _=>undef⟩:=by
   refine⟨by simp[St.head];omega,fun t=>?_,⟨fun hi=>(by cases hi),fun hi=>(by cases hi),fun hi=>(by cases hi),fun hi=>(by cases hi),fun hi=>(by cases hi),fun hi=>(by cases hi),fun hi=>(by cases hi),fun hi=>(by cases hi),fun hi=>(by cases hi),hL,fun hi=>(by cases hi),fun hi=>(by cases hi)⟩,hE,Nat.le_refl _⟩
   have:=argsE_get 0 t hargs
   rw[if_neg (by omega),Nat.sub_zero] at this
   refine Eq.mpr ?_ this
   congr 1
   show((vs.toArray++Array.replicate (fn.ntmps - vs.toArray.size) undef).getD t undef)=_
   rw[Array.getD_eq_getD_getElem?,List.getD_eq_getElem?_getD]
   by_cases ht:t < vs.length
   ·rw[Array.getElem?_append_left (by simpa using ht)];simp
   ·rw[Array.getElem?_append_right (by simpa using ht),List.getElem?_eq_none (by omega)]
    by_cases h2:t - vs.toArray.size < fn.ntmps - vs.toArray.size
    ·rw[Array.getElem?_replicate,if_pos h2];rfl
    ·rw[Array.getElem?_replicate,if_neg h2]
  have hw:=simp_wp hT hm c hs X ⟨fun _ h=>h,fun _ h=>h⟩ w.heap.size fn.ntmps (fun _=>False) Fence.wide 1 (.inl rfl) (fun _=>True) (fun _ _=>trivial) _ _ _ w _ (fun ch st h=>h.elim) h hd rfl
  refine callsIn_wide.1 (callsIn_of_wp_marks (n:=1) hf hc trivial (wpIn_mono hw ?_))
  rintro e a' w' ⟨st',g',q1,q2,q3,q4,q5,q6⟩
  have fin:(match resTs tb st' fn.results.toList with | some [t]=>PubT st' t r | _=>False)→LeavesInM Fence.wide 1 P fn a'.tmps (fun e w'=>∃v L',e=.returned v∧Below w.heap.size w w'∧Same L w L' w'∧(∀{b o},L' b o→L b o∨w.heap.size≤b)∧(∀{b o},L' b o→∃u,w'.cell? ⟨b,o,none⟩=some u)∧RepT P w' ⟨L',fun _=>(0,0),fun _=>undef⟩ r v) a'.defers .returning w':=fun hr=>by
   split at hr <;> try exact hr.elim
   rename_i t hts
   obtain⟨v,hv,r1⟩:=results_one hT q2 hts
   rw[q5]
   have hu1:=q3.upd
   refine⟨v,hv,v,g'.pub st',rfl,⟨hu1.os,hu1.tape,hu1.output,hu1.size,fun k hk=>hu1.block k hk (by rintro(h | h);exact h;omega)⟩,⟨fun b o u h1 h2=>?_,q3.same.m⟩,fun {b o} h=>?_,fun {b o} h=>?_,PubT.rep q2 _ _ _ hr r1⟩
   ·obtain⟨h3,h4⟩:=q3.same.c b o u h1 h2
    exact⟨.inl h3,h4⟩
   ·rcases h with h | ⟨i,l,hi,rfl,_,_⟩
    ·exact(q3.newL h).imp id And.left
    ·rcases q2.mm.loc (i:=i) (by unfold isK;rw[hi];rfl) with h | h
     ·exact h.elim
     ·exact .inr h
   ·rcases h with h | ⟨i,l,hi,rfl,h1,h2⟩
    ·exact q2.mm.Lc h
    ·obtain⟨u,hu,_⟩:=q2.mm.box hi (j:=o - (g'.ρ i).2) (List.getElem?_eq_getElem (by omega))
     exact⟨u,by rw[show(g'.ρ i).2+(o - (g'.ρ i).2)=o by omega] at hu;exact hu⟩
  cases e with
  | normal=>exact fin q1
  | ret=>exact fin q1
  | exit id=>exact q1.elim
  | goto l=>exact q1.elim
  | panic ch=>exact q1.elim
  | outgrown=>exact q1.elim
end Go.Proofs.YtknelogmocedeaaGreatDoor
namespace Go.Proofs.YtknelogmocedeaaGreatDoor.Dn
open Go.RowKit
set_option linter.unusedVariables false
theorem pieces_fn(p:Nat→Addr)(s:ByteArray)(c:UInt8):Fn Tryz.prog (envX p) 87 [.v (.agg [.str s,.int .u8 c.toNat])] (.fn 123 [.ro [.str s,.int .u8 c.toNat]]):=by
 refine fnP_prog tabOk mixed Tryz.f87 Tryz.func87 (by kernel_rfl) (by kernel_rfl) (by kernel_rfl) ?_
 conv=>whnf
 exact⟨rfl,⟨_,rfl,rfl⟩,trivial⟩
theorem pieces_it(p:Nat→Addr)(s:ByteArray)(c:UInt8)(hs:s.size≤100000000)(hc:c≠92):It Tryz.prog (envX p) 123 [.ro [.str s,.int .u8 c.toNat]] ((piecesL c s.data.toList).map fun y=>[.str (mkB y)]):=by
 refine⟨enter_of (by kernel_rfl),fun l0 g cvs w0 J hE hL _ ha h0 hst han hba hrd=>?_⟩
 obtain⟨v,rfl,b,o,rfl,⟨u0,l0',c0,_,r0⟩,⟨u1,l1',c1,_,r1⟩,_⟩:=one_arg ha
 rw[show u0=.string s from r0] at c0
 rw[show u1=.int .u8 c.toNat from r1] at c1
 have hJ:=fun i Z W h=>(hba i Z W h).2.1
 have key:=pieces_iter (l0:=l0) (Cx:=b) (Co:=o) hs hc (fun pre W=>∃Z,J (some pre.length) Z W) (fun W=>∃Z,J none Z W) (fun pre W ⟨Z,h⟩=>⟨((hJ _ Z W h).c b o _ l0' c0).2,((hJ _ Z W h).c b (o+1) _ l1' c1).2⟩) (fun pre W W' ⟨Z,h⟩ hb=>⟨_,hst _ Z W W' h (Upd.of_below hb) (.of_below hb)⟩)
  (fun pre y rest W hp hy ⟨Z,h⟩=>by
   have hi:((piecesL c s.data.toList).map fun y=>[V.str (mkB y)])[pre.length]? =some [V.str y]:=by
    rw[hp,List.getElem?_map,List.getElem?_append_right (Nat.le_refl _),Nat.sub_self]
    simp[mkB]
   obtain⟨fn,tm,asg,bo,h1,h2⟩:=hrd pre.length [.str y] Z (fun _=>False) W g.L [.string y] hi h ⟨_,_,rfl,rfl,rfl⟩ .inl (fun _ h=>h.elim) (fun _ h=>h)
   refine⟨fn,tm,asg,bo,h1,h2.mono fun e W' h=>?_⟩
   rcases h.2 with⟨rfl,h3⟩ | ⟨rfl,h3⟩
   ·exact .inl ⟨rfl,_,by rw[List.length_append];exact h3⟩
   ·exact .inr ⟨rfl,_,h3⟩)
  w0 ⟨_,h0⟩
 refine key.mono fun e W' ⟨hv,h⟩=>⟨hv,?_⟩
 rcases h with⟨Z,h⟩ | h
 ·exact .inl ⟨Z,fun _ _=>False,by rw[List.length_map];exact h,fun b ⟨j,hj,_⟩=>absurd hj (Nat.not_lt_zero _),fun h=>h.elim,fun h=>h.elim,memB_nil⟩
 ·exact .inr h
end Go.Proofs.YtknelogmocedeaaGreatDoor.Dn
namespace Go.Proofs.YtknelogmocedeaaGreatDoor.Dn
open Go.RowKit
set_option linter.unusedVariables false
theorem piecesF_le(c:UInt8):∀(f:Nat) (l:List UInt8),(∀y∈piecesF c f l,y.length≤l.length)∧(piecesF c f l).length≤f+1
 | 0,l=>⟨fun y hy=>by rw[piecesF] at hy;simp at hy;rw[hy];exact Nat.le_refl _,by rw[piecesF];simp⟩
 | f+1,l=>by
  obtain⟨h1,h2⟩:=piecesF_le c f (l.drop (endL c l+1))
  rw[piecesF]
  split
  ·exact⟨fun y hy=>by simp at hy;rw[hy];exact Nat.le_refl _,by simp⟩
  ·refine⟨fun y hy=>?_,by rw[List.length_cons];omega⟩
   rcases List.mem_cons.1 hy with rfl | hy
   ·rw[List.length_take];omega
   ·have:=h1 y hy
    rw[List.length_drop] at this
    omega
theorem pieces_le(c:UInt8)(l:List UInt8):(∀y∈piecesL c l,y.length≤l.length)∧(piecesL c l).length≤l.length+2:=piecesF_le c _ l
def codeN(b:Bool):Int:=if b=true then 0 else 70
def rdnD(q:List UInt8):Rdn:=(rdnOf q).getD []
theorem allM_some{α β:Type}{f:α→Option β}{dflt:α→β}(hd:∀a b,f a=some b→dflt a=b):∀l:List α,(∀a∈l,(f a).isSome=true)→allM f l=some (l.map dflt)
 | [],_=>rfl
 | a::t,h=>by
  obtain⟨b,hb⟩:=Option.isSome_iff_exists.1 (h a (by simp))
  rw[allM,hb,allM_some hd t (fun x hx=>h x (by simp[hx])),List.map_cons,hd a b hb]
  rfl
theorem allM_none{α β:Type}{f:α→Option β}:∀{l:List α} {a:α},a∈l→f a=none→allM f l=none
 | b::t,a,h,hn=>by
  rw[allM]
  cases hb:f b with
  | none=>rfl
  | some y=>
   rcases List.mem_cons.1 h with rfl | h
   ·rw[hn] at hb;cases hb
   ·dsimp only
    rw[allM_none h hn];rfl
def badRdn(q:List UInt8):Option ByteArray:=((piecesL 43 q).find? fun x=>(partA (mkB x)).isNone).map mkB
def badOf(s:ByteArray):ByteArray:=if s.data.toList=[] then s else((piecesL 44 s.data.toList).findSome? badRdn).getD s
def parsedV(s:ByteArray):T:=match parsedL s.data.toList with
 | some d=>.tup [.v (vName d),.v .nili]
 | none=>.tup [.v (.sl []),.v (dnErr (badOf s))]
def avaD(q:List UInt8):Ava:=(partA (mkB q)).getD (⟨#[]⟩,⟨#[]⟩)
theorem find_first{α:Type}{f:α→Bool}{l:List α}{i:Nat}(hi:i < l.length)(h:∀j (hj:j < i),f (l[j]'(by omega))=false)(h2:f l[i]=true):l.find? f=some l[i]:=by
 induction l generalizing i with
 | nil=>cases hi
 | cons a t ih=>
  cases i with
  | zero=>rw[List.find?_cons,show f a=true from h2];rfl
  | succ n=>
   rw[List.find?_cons,show f a=false from h 0 (by omega)]
   exact ih (by simpa using hi) (fun j hj=>h (j+1) (by omega)) h2
theorem findSome_first{α β:Type}{f:α→Option β}{l:List α}{i:Nat}{b:β}(hi:i < l.length)(h:∀j (hj:j < i),f (l[j]'(by omega))=none)(h2:f l[i]=some b):l.findSome? f=some b:=by
 induction l generalizing i with
 | nil=>cases hi
 | cons a t ih=>
  cases i with
  | zero=>rw[List.findSome?_cons,show f a=some b from h2]
  | succ n=>
   rw[List.findSome?_cons,show f a=none from h 0 (by omega)]
   exact ih (by simpa using hi) (fun j hj=>h (j+1) (by omega)) h2
end Go.Proofs.YtknelogmocedeaaGreatDoor.Dn
