/- Several texts, one behind the other. The walk without memory is right: what makes memory, and what writes it. Whatever program. The walk without memory is right: struct and slice literals, slicing, append. Whatever program. -/
import Derived.Test.YtknelogmocedeaaGreatDoorR04
import Derived.Great.BuildSlice
import Derived.Deep.Upon
import Derived.Deep.AppendLies
namespace Go.Proofs.YtknelogmocedeaaGreatDoor
open Go.RowKit
set_option linter.unusedVariables false
variable {P : Program} {X : En} {base N : Nat} {S : Nat → Prop} {tb : Tab} {C : Con}
theorem lk_scrEnv(f:T→T)(t:Nat):∀env:List (Nat×T),lk t (scrEnv f env)=(lk t env).map f
 | []=>rfl
 | p::r=>by
  rw[scrEnv]
  unfold lk
  dsimp only
  split
  ·rfl
  ·exact lk_scrEnv f t r
theorem lk_scrBs(f:T→T)(t:Nat):∀bs:List (Nat×List T),lk t (scrBs f bs)=(lk t bs).map (fun l=>l.map f)
 | []=>rfl
 | p::r=>by
  rw[scrBs]
  unfold lk
  dsimp only
  split
  ·rfl
  ·exact lk_scrBs f t r
theorem tget_scr{f:T→T}(hf:f .un=.un)(env:List (Nat×T))(t:Nat):tget (scrEnv f env) t=f (tget env t):=by
 unfold tget
 rw[lk_scrEnv]
 cases lk t env
 ·exact hf.symm
 ·rfl
theorem isK_scr(f:T→T)(bs:List (Nat×List T))(i:Nat):isK (scrBs f bs) i↔isK bs i:=by
 unfold isK
 rw[lk_scrBs]
 simp
theorem scrP_rep{w w':World}{g g':Gh}{d:Nat}(h:Same g.L w g'.L w')(hp:∀i,i≠d→g'.ρ i=g.ρ i)(hk:g'.κ=g.κ){t:T}{v:Value}(r:RepT P w g t v):RepT P w' g' (scrP d t) v:=by
 unfold scrP
 cases e:t.hasP d
 ·exact RepT.mono h t v (fun i hi=>hp i (by rintro rfl;rw[e] at hi;cases hi)) (fun _ _=>by rw[hk]) r
 ·trivial
theorem scrK_rep{w w':World}{g g':Gh}{d:Nat}(h:Same g.L w g'.L w')(hp:g'.ρ=g.ρ)(hk:∀i,i≠d→g'.κ i=g.κ i){t:T}{v:Value}(r:RepT P w g t v):RepT P w' g' (scrK d t) v:=by
 have gen:∀t:T,t.hasK d=false→RepT P w g t v→RepT P w' g' t v:=fun t e r=>
  RepT.mono h t v (fun _ _=>by rw[hp]) (fun i hi=>hk i (by rintro rfl;rw[e] at hi;cases hi)) r
 cases t with
 | own k e xs=>
  unfold scrK
  dsimp only
  split
  ·exact Rep.mono h _ v r.1
  ·rename_i hb
   exact gen _ (by simpa [T.hasK] using hb) r
 | un=>trivial
 | v x=>exact gen _ rfl r
 | ptr i o=>exact gen _ rfl r
 | ro cs=>exact gen _ rfl r
 | fn f caps=>
  unfold scrK
  dsimp only
  split
  ·trivial
  ·rename_i hb
   exact gen _ hb r
 | sub k m=>
  unfold scrK
  dsimp only
  split
  ·trivial
  ·rename_i hb
   exact gen _ (by simpa using hb) r
 | tup l=>
  unfold scrK
  dsimp only
  split
  ·trivial
  ·rename_i hb
   exact gen _ hb r
theorem same_alloc{L:Lv}(w:World)(o:Obj):Same L w L (w.alloc o):=Same.of_below (below_new w o)
theorem frozen_old{w w':World}{b:Nat}(h:w'.heap[b]? =w.heap[b]?)(j:Nat):w'.frozen? ⟨b,j,none⟩=w.frozen? ⟨b,j,none⟩:=by unfold World.frozen?;rw[h]
theorem cell_old{w w':World}{b:Nat}(h:w'.heap[b]? =w.heap[b]?)(j:Nat):w'.cell? ⟨b,j,none⟩=w.cell? ⟨b,j,none⟩:=by unfold World.cell?;rw[h]
theorem new_grown(w:World)(o:Obj)(row:Option Nat):w.grownBy (w.alloc o) row:=grown_of_below (below_new w o) row
def Gh.at (g:Gh)(d:Nat)(p:Nat×Nat):Gh:={g with ρ:=fun i=>if i=d then p else g.ρ i}
theorem Gh.at_eq (g:Gh)(d:Nat)(p:Nat×Nat):(g.at d p).ρ d=p:=if_pos rfl
theorem Gh.at_ne (g:Gh){d i:Nat}(p:Nat×Nat)(h:i≠d):(g.at d p).ρ i=g.ρ i:=if_neg h
theorem Hd.alloc {st:St}{a:Act}{w:World}{g:Gh}(hd:Hd P X base S st a w g){d:Nat}(hdN:d < N){cs:List T}{us:Array Value}(ty:TypeId)(hr:RepTs P w g cs us.toList)(h1:∀u∈us.toList,u.oneCell'=true):
  Hd P X base S (st.alloc d cs) a (w.alloc (.cells us ty)) (g.at d (w.heap.size,0))∧Stp X base S N w g (w.alloc (.cells us ty)) (g.at d (w.heap.size,0))∧Tame w g st.lv (w.alloc (.cells us ty)) (g.at d (w.heap.size,0)) st.lv:=by
 have hs:=same_alloc (L:=g.L) w (.cells us ty)
 have hne:∀i,i≠d→(g.at d (w.heap.size,0)).ρ i=g.ρ i:=fun i hi=>g.at_ne _ hi
 have hB:(w.alloc (.cells us ty)).heap[w.heap.size]? =some (.cells us ty (0,0)):=heap_alloc_new w _
 have hold:∀b,b < w.heap.size→(w.alloc (.cells us ty)).heap[b]? =w.heap[b]? :=fun b hb=>heap_alloc_old w _ hb
 have hsz:(w.alloc (.cells us ty)).heap.size=w.heap.size+1:=by simp
 have kk:∀i,i≠d→isK (st.alloc d cs).bs i→isK st.bs i:=fun i hi h=>by
  unfold isK St.alloc at h
  dsimp only at h
  rw[lk_cons_ne _ _ hi] at h
  exact(isK_scr _ _ _).1 h
 refine⟨⟨hd.sz,fun t=>?_,?_,?_,by rw[hsz];have:=hd.le;omega⟩,⟨Upd.of_below (below_new w _),hs,fun h=>.inl h,fun hi=>hne _ (by omega),fun hk _=>(hold _ (Array.getElem?_eq_some_iff.1 hk).1).trans hk⟩,fun b o u hsf hc=>⟨cell_below hc (below_new w _),by rw[hsz];exact Nat.lt_succ_of_lt hsf.1,hsf.2⟩⟩
 ·show RepT P _ _ (tget (scrEnv (scrP d) st.env) t) _
  rw[tget_scr rfl]
  exact scrP_rep (g':=g.at d (w.heap.size,0)) hs hne rfl (hd.env t)
 ·refine⟨?_,?_,?_,?_,?_,?_,?_,?_,hd.mm.ownInj,?_,?_,hd.mm.ownE⟩
  ·intro i cs' hi j c hj
   by_cases hid:i=d
   ·subst hid
    unfold St.alloc at hi
    rw[lk_cons_eq] at hi
    cases hi
    rw[List.getElem?_map] at hj
    obtain⟨c0,hc0,rfl⟩:=Option.map_eq_some_iff.1 hj
    obtain⟨u,hu,hr'⟩:=hr.get hc0
    refine⟨u,?_,scrP_rep (g':=g.at _ (w.heap.size,0)) hs hne rfl hr',h1 u (List.mem_of_getElem? hu)⟩
    rw[Gh.at_eq,Nat.zero_add]
    exact cel hB j (by rwa [Array.getElem?_toList] at hu)
   ·unfold St.alloc at hi
    dsimp only at hi
    rw[lk_cons_ne _ _ hid,lk_scrBs] at hi
    obtain⟨cs0,hcs0,rfl⟩:=Option.map_eq_some_iff.1 hi
    rw[List.getElem?_map] at hj
    obtain⟨c0,hc0,rfl⟩:=Option.map_eq_some_iff.1 hj
    obtain⟨u,hu,hr',h1'⟩:=hd.mm.box hcs0 hc0
    refine⟨u,?_,scrP_rep (g':=g.at _ (w.heap.size,0)) hs hne rfl hr',h1'⟩
    rw[Gh.at_ne _ _ hid]
    exact cell_below hu (below_new w _)
  ·intro i hi j
   by_cases hid:i=d
   ·subst hid;rw[Gh.at_eq];exact frz hB j
   ·rw[Gh.at_ne _ _ hid,frozen_old (hold _ (hd.mm.lt (kk i hid hi)))]
    exact hd.mm.frz (kk i hid hi) j
  ·intro i hi j
   by_cases hid:i=d
   ·subst hid;rw[Gh.at_eq];intro h;exact absurd (hd.mm.Llt h) (Nat.lt_irrefl _)
   ·rw[Gh.at_ne _ _ hid];exact hd.mm.bxL (kk i hid hi) j
  ·intro i hi
   by_cases hid:i=d
   ·subst hid;rw[Gh.at_eq];intro h;have:=X.lt hd.E h;dsimp only at*;omega
   ·rw[Gh.at_ne _ _ hid];exact hd.mm.bxE (kk i hid hi)
  ·intro i hi
   by_cases hid:i=d
   ·subst hid;rw[Gh.at_eq];exact .inr hd.le
   ·rw[Gh.at_ne _ _ hid];exact hd.mm.loc (kk i hid hi)
  ·intro i hi
   rw[hsz]
   by_cases hid:i=d
   ·subst hid;rw[Gh.at_eq];exact Nat.lt_succ_self _
   ·rw[Gh.at_ne _ _ hid];exact Nat.lt_succ_of_lt (hd.mm.lt (kk i hid hi))
  ·intro i j hi hj hij
   by_cases hid:i=d
   ·subst hid
    rw[Gh.at_eq,Gh.at_ne _ _ (Ne.symm hij)]
    have:=hd.mm.lt (kk j (Ne.symm hij) hj)
    dsimp only;omega
   ·rw[Gh.at_ne _ _ hid]
    have hlt:=hd.mm.lt (kk i hid hi)
    by_cases hjd:j=d
    ·subst hjd;rw[Gh.at_eq];dsimp only;omega
    ·rw[Gh.at_ne _ _ hjd];exact hd.mm.inj (kk i hid hi) (kk j hjd hj) hij
  ·intro k e hk
   obtain⟨n,vals,o1,o2⟩:=hd.mm.own hk
   refine⟨n,vals,o1.kept (new_grown w _ none) (by cases h:(g.κ k).ownBlock <;> simp),fun b hb=>⟨(o2 b hb).1,fun i hi=>?_⟩⟩
   have:=(o1.lt b hb).2
   by_cases hid:i=d
   ·subst hid;rw[Gh.at_eq];dsimp only;omega
   ·rw[Gh.at_ne _ _ hid];exact(o2 b hb).2 i (kk i hid hi)
  ·intro b o h
   obtain⟨u,hu⟩:=hd.mm.Lc h
   exact⟨u,cell_below hu (below_new w _)⟩
  ·intro i hi
   by_cases hid:i=d
   ·subst hid;rw[Gh.at_eq];exact⟨_,_,_,hB⟩
   ·rw[Gh.at_ne _ _ hid,hold _ (hd.mm.lt (kk i hid hi))];exact hd.mm.bc (kk i hid hi)
 ·exact X.upd (S:=fun _=>False) (Upd.of_below (below_new w _)) (fun _ h=>h.elim) hd.E
theorem zv_reps{w:World}{g:Gh}:∀{z:List V},z.all zok=true→RepTs P w g (z.map T.v) (z.map zv)
 | [],_=>rfl
 | x::r,h=>by
  rw[List.all_cons,Bool.and_eq_true] at h
  exact⟨_,_,rfl,by cases x <;> first | rfl | (cases h.1),zv_reps h.2⟩
theorem zv_repl{w:World}{L:Lv}:∀{z:List V},z.all zok=true→RepL w L z (z.map zv)
 | [],_=>rfl
 | x::r,h=>by
  rw[List.all_cons,Bool.and_eq_true] at h
  exact⟨_,_,rfl,by cases x <;> first | rfl | exact h.1 | (cases h.1),by cases x <;> first | rfl | (cases h.1),zv_repl h.2⟩
theorem zv_ones{z:List V}(h:z.all zok=true):∀u∈z.map zv,u.oneCell'=true:=RepL.one_vals (w:=default) (L:=fun _ _=>False) (zv_repl h)
theorem ran_alloc(hT:TabOk P tb){o:Oper}{t:TypeId}(ho:o.op=.alloc t){a:Act}{w:World}{g:Gh}{st:St}{K:T→St→Prop}(hN:st.n=N)(hd:Hd P X base S st a w g)(hs:semOp tb C o st K):Ran P X base S N st o a w g K:=by
 unfold semOp at hs
 rw[ho] at hs
 dsimp only at hs
 split at hs <;> try exact hs.elim
 rename_i d hdst
 split at hs <;> try exact hs.elim
 rename_i z hz
 split at hs <;> try exact hs.elim
 rename_i hb
 rw[frcAll_eq] at hs
 obtain⟨i,v,z1,z2,z3,z4⟩:=hT.zer hz
 rw[Nat.blt_eq] at hb
 obtain⟨h1,h2,h3⟩:=hd.alloc (N:=N) (d:=d) (by omega) (cs:=z.map T.v) (us:=v.cells) t (by rw[z3];exact zv_reps z4) (by rw[z3];exact zv_ones z4)
 refine⟨.value (.pointer (some ⟨w.heap.size,0,none⟩)),_,_,.ptr d 0,_,_,?_,.inl rfl,hs,?_,h1,h2,h3.b⟩
 ·unfold execOp
  simp only[ho,Instr.alloc,Sem.run_bind,zeroValue,typeInfo,run_program,Result.andThen_ok,z1,z2,Sem.run_pure,newVar,newRow,run_newObj]
  rfl
 ·show _=_
  rw[Gh.at_eq]
theorem cellsT_rep{w:World}{g:Gh}{t:T}{cs:List T}{v:Value}(h:t.cellsT=some cs)(r:RepT P w g t v):RepTs P w g cs v.cells.toList∧∀u∈v.cells.toList,u.oneCell'=true:=by
 have one:∀t:T,t.cellsT=some [t]→v.oneCell'=true→RepT P w g t v→RepTs P w g [t] v.cells.toList∧∀u∈v.cells.toList,u.oneCell'=true:=fun t _ h1 r=>by
  have:v.cells=#[v]:=by cases v <;> first | rfl | cases h1
  rw[this]
  exact⟨⟨v,[],rfl,r,rfl⟩,fun u hu=>by simp at hu;rw[hu];exact h1⟩
 cases t with
 | un=>cases h
 | tup l=>cases h
 | v x=>
  cases x with
  | agg l=>
   cases h
   obtain⟨us,rfl,hr⟩:=r
   refine⟨?_,hr.one_vals⟩
   have:∀(l:List V) (us:List Value),RepL w g.L l us→RepTs P w g (l.map T.v) us:=by
    intro l
    induction l with
    | nil=>intro us h;exact h
    | cons y ys ih=>rintro us ⟨u,us',e,_,r1,r2⟩;exact⟨u,us',e,r1,ih us' r2⟩
   exact this l _ hr
  | raw u=>
   unfold T.cellsT at h
   dsimp only at h
   split at h
   ·rename_i hu
    cases h
    have e:(T.v (.raw u)).cellsT=some [.v (.raw u)]:=by
     unfold T.cellsT
     dsimp only
     rw[hu]
    refine one _ e ?_ r
    rw[show v=_ from r]
    exact hu
   ·cases h
  | int k n=>cases h;refine one _ rfl ?_ r;rw[show v=_ from r];rfl
  | bool b=>cases h;refine one _ rfl ?_ r;rw[show v=_ from r];rfl
  | str b=>cases h;refine one _ rfl ?_ r;rw[show v=_ from r];rfl
  | nils=>cases h;refine one _ rfl ?_ r;rw[show v=_ from r];rfl
  | nili=>cases h;refine one _ rfl ?_ r;rw[show v=_ from r];rfl
  | sl xs=>cases h;refine one _ rfl ?_ r;obtain⟨A,c,rfl,_⟩:=r;rfl
  | mp ks vs=>cases h;refine one _ rfl ?_ r;obtain⟨_,_,_,rfl,_⟩:=r;rfl
  | ifc s y=>cases h;refine one _ rfl ?_ r;obtain⟨u,rfl,_⟩:=r;rfl
 | own k e xs=>cases h;refine one _ rfl ?_ r;obtain⟨⟨A,c,rfl,_⟩,_⟩:=r;rfl
 | ptr i o=>cases h;refine one _ rfl ?_ r;rw[show v=_ from r];rfl
 | ro cs=>cases h;refine one _ rfl ?_ r;obtain⟨b,o,rfl,_⟩:=r;rfl
 | fn f caps=>cases h;refine one _ rfl ?_ r;obtain⟨us,rfl,_⟩:=r;rfl
 | sub k m=>
  cases m with
  | pre m=>cases h;refine one _ rfl ?_ r;obtain⟨A,n,c,_,rfl,_⟩:=r;rfl
  | ext e xs=>cases h;refine one _ rfl ?_ r;obtain⟨b,c,_,rfl,_⟩:=r;rfl
  | el e xs=>cases h;refine one _ rfl ?_ r;obtain⟨b,c,_,rfl,_⟩:=r;rfl
  | ag e l xs q=>
   cases h
   obtain⟨ls,rs,rfl,h1,h2,h3,h4⟩:=r
   have vs:∀{l:List V} {us:List Value},RepL w g.L l us→RepTs P w g (l.map T.v) us:=by
    intro l
    induction l with
    | nil=>intro us h;exact h
    | cons y ys ih=>rintro us ⟨u,us',e,_,r1,r2⟩;exact⟨u,us',e,r1,ih r2⟩
   refine⟨(vs h1).append ⟨_,_,rfl,⟨h3,rfl,h4⟩,vs h2⟩,fun u hu=>?_⟩
   have hu':u∈ls++g.κ k::rs:=hu
   rcases List.mem_append.1 hu' with hu' | hu'
   ·exact h1.one_vals u hu'
   ·rcases List.mem_cons.1 hu' with rfl | hu'
    ·obtain⟨A,c,e,_⟩:=h3
     rw[e];rfl
    ·exact h2.one_vals u hu'
theorem ran_box{o:Oper}{t:TypeId}{x:Operand}(ho:o.op=.box t x){a:Act}{w:World}{g:Gh}{st:St}{K:T→St→Prop}(hN:st.n=N)(hd:Hd P X base S st a w g)(hs:semOp tb C o st K):Ran P X base S N st o a w g K:=by
 unfold semOp at hs
 rw[ho] at hs
 dsimp only at hs
 split at hs <;> try exact hs.elim
 rename_i d hdst
 split at hs <;> try exact hs.elim
 rename_i cs hcs
 split at hs <;> try exact hs.elim
 rename_i hb
 rw[frcAll_eq] at hs
 rw[Nat.blt_eq] at hb
 obtain⟨c1,c2⟩:=cellsT_rep hcs (hd.ev x)
 obtain⟨h1,h2,h3⟩:=hd.alloc (N:=N) (d:=d) (by omega) (cs:=cs) (us:=(a.eval x).cells) t c1 c2
 refine⟨.value (.pointer (some ⟨w.heap.size,0,none⟩)),_,_,.ptr d 0,_,_,?_,.inl rfl,hs,?_,h1,h2,h3.b⟩
 ·unfold execOp
  simp only[ho,Instr.box,Sem.run_bind,Result.andThen_ok,Sem.run_pure,newVar,newRow,run_newObj]
  rfl
 ·show _=_
  rw[Gh.at_eq]
theorem setCells_grown(b:Nat):∀(vs:List Value) (o:Nat) (w:World),w.grownBy (w.setCells b o vs) (some b)
 | [],_,w=>grown_refl _ _
 | v::r,o,w=>by
  rw[World.setCells]
  exact grown_trans (set_grown w b o v) (setCells_grown b r (o+1) _)
theorem setCells_cell(b:Nat):∀(vs:List Value) (o:Nat) (w:World) (j:Nat),(j < o∨o+vs.length≤j)→(w.setCells b o vs).cell? ⟨b,j,none⟩=w.cell? ⟨b,j,none⟩
 | [],_,_,_,_=>rfl
 | v::r,o,w,j,h=>by
  rw[World.setCells,setCells_cell b r (o+1) _ j (by simp at h;omega),World.cell?_setCell_other _ _ _ _ (by simp at h ⊢ <;> omega)]
theorem setCells_in(b:Nat):∀(vs:List Value) (o:Nat) (w:World),(∀j,j < vs.length→(w.cell? ⟨b,o+j,none⟩).isSome=true)→∀(j:Nat) (v:Value),vs[j]? =some v→(w.setCells b o vs).cell? ⟨b,o+j,none⟩=some v
 | [],_,_,_,_,_,hj=>by simp at hj
 | u::r,o,w,h,0,v,hj=>by
  simp at hj;subst hj
  rw[World.setCells,setCells_cell b r (o+1) _ _ (by omega)]
  obtain⟨z,hz⟩:=Option.isSome_iff_exists.1 (h 0 (by simp))
  simpa using World.cell?_setCell_same _ _ _ hz
 | u::r,o,w,h,j+1,v,hj=>by
  rw[World.setCells,show o+(j+1)=(o+1)+j by omega]
  refine setCells_in b r (o+1) _ (fun i hi=>?_) j v (by simpa using hj)
  rw[World.cell?_setCell_other _ _ _ _ (by simp <;> omega)]
  have:=h (i+1) (by simp;omega)
  rwa [show o+(i+1)=o+1+i by omega] at this
theorem setCells_size(b:Nat):∀(vs:List Value) (o:Nat) (w:World),(w.setCells b o vs).heap.size=w.heap.size
 | [],_,_=>rfl
 | v::r,o,w=>by rw[World.setCells,setCells_size b r];simp[World.setCell]
theorem setCells_isC(b:Nat):∀(vs:List Value) (o:Nat) (w:World),(∃c t fr,w.heap[b]? =some (.cells c t fr))→∃c t fr,(w.setCells b o vs).heap[b]? =some (.cells c t fr)
 | [],_,_,h=>h
 | v::r,o,w,⟨c,t,fr,h⟩=>by
  rw[World.setCells]
  exact setCells_isC b r (o+1) _ ⟨_,_,_,set_blk h o v⟩
theorem Hd.store {st:St}{a:Act}{w:World}{g:Gh}(hd:Hd P X base S st a w g){i of:Nat}{cs ys:List T}{us:List Value}(hi:lk i st.bs=some cs)(hof:of+ys.length≤cs.length)(hr:RepTs P w g ys us)(h1:∀u∈us,u.oneCell'=true):
  Hd P X base S (st.bset i (cs.take of++ys++cs.drop (of+ys.length))) a (w.setCells (g.ρ i).1 ((g.ρ i).2+of) us) g∧Stp X base S N w g (w.setCells (g.ρ i).1 ((g.ρ i).2+of) us) g:=by
 have hK:isK st.bs i:=by unfold isK;rw[hi];rfl
 have hg:=setCells_grown (g.ρ i).1 us ((g.ρ i).2+of) w
 have hsz:=setCells_size (g.ρ i).1 us ((g.ρ i).2+of) w
 have hul:us.length=ys.length:=hr.length
 have hold:∀b,b≠(g.ρ i).1→(w.setCells (g.ρ i).1 ((g.ρ i).2+of) us).heap[b]? =w.heap[b]? :=fun b hb=>by
  by_cases hlt:b < w.heap.size
  ·exact hg.block b hlt (by simpa using hb)
  ·rw[Array.getElem?_eq_none (by omega),Array.getElem?_eq_none (by omega)]
 have hs:Same g.L w g.L (w.setCells (g.ρ i).1 ((g.ρ i).2+of) us):=⟨fun b o u hL hc=>by
  refine⟨hL,?_⟩
  by_cases hbb:b=(g.ρ i).1
  ·subst hbb
   rw[setCells_cell _ _ _ _ _ (Classical.byContradiction fun hh=>hd.mm.bxL (i:=i) (by unfold isK;rw[hi];rfl) _ hL)]
   exact hc
  ·rw[cell_old (hold b hbb)]
   exact hc,.of_grown hg fun o ho=>by
   obtain⟨c,t,fr,hc⟩:=hd.mm.bc (i:=i) (by unfold isK;rw[hi];rfl)
   rw[hc] at ho;cases ho;rfl⟩
 have kk:∀j,isK (st.bset i (cs.take of++ys++cs.drop (of+ys.length))).bs j↔isK st.bs j:=fun j=>by
  unfold isK St.bset
  dsimp only
  by_cases hj:j=i
  ·subst hj;rw[lk_cons_eq,hi];simp
  ·rw[lk_cons_ne _ _ hj]
 have hcell:∀j,j < cs.length→(w.cell? ⟨(g.ρ i).1,(g.ρ i).2+j,none⟩).isSome=true:=fun j hj=>by
  obtain⟨u,hu,_⟩:=hd.mm.box hi (List.getElem?_eq_getElem hj)
  rw[hu];rfl
 have hfz:∀j,(w.setCells (g.ρ i).1 ((g.ρ i).2+of) us).frozen? ⟨(g.ρ i).1,j,none⟩=false:=fun j=>by rw[World.frozen?_setCells];exact hd.mm.frz hK j
 have hup:Upd (fun b=>S b∨base≤b) w (w.setCells (g.ρ i).1 ((g.ρ i).2+of) us):=Upd.of_grown hg (hd.mm.loc hK)
 have rep:∀{t v},RepT P w g t v→RepT P (w.setCells (g.ρ i).1 ((g.ρ i).2+of) us) g t v:=fun r=>r.same hs rfl rfl
 refine⟨⟨hd.sz,fun t=>rep (hd.env t),?_,?_,by rw[hsz];exact hd.le⟩,⟨hup,hs,fun h=>.inl h,fun _=>rfl,fun {k o} hk hc=>by
  by_cases hki:k=(g.ρ i).1
  ·subst hki
   by_cases hz:cs=[]
   ·subst hz
    have h0:of+ys.length≤0:=hof
    have:us=[]:=List.eq_nil_of_length_eq_zero (by omega)
    subst this
    exact hk
   ·obtain⟨c,cs',rfl⟩:∃c cs',cs=c::cs':=by cases cs with
     | nil=>exact absurd rfl hz
     | cons c cs'=>exact⟨c,cs',rfl⟩
    obtain⟨u,hu,_⟩:=hd.mm.box hi (j:=0) (c:=c) rfl
    unfold World.cell? at hu
    rw[hk] at hu
    cases o <;> first | (cases hc;done) | (simp at hu)
  ·rw[hold k hki];exact hk⟩⟩
 ·refine⟨?_,?_,fun h=>hd.mm.bxL ((kk _).1 h),fun h=>hd.mm.bxE ((kk _).1 h),fun h=>hd.mm.loc ((kk _).1 h),fun h=>by rw[hsz];exact hd.mm.lt ((kk _).1 h),fun h1 h2=>hd.mm.inj ((kk _).1 h1) ((kk _).1 h2),?_,hd.mm.ownInj,fun {b o} h=>?_,fun {j} hj=>?_,hd.mm.ownE⟩
  ·intro j cs' hj k c hk
   by_cases hji:j=i
   ·subst hji
    unfold St.bset at hj
    rw[lk_cons_eq] at hj
    cases hj
    by_cases h3:k < of
    ·rw[List.append_assoc,List.getElem?_append_left (by rw[List.length_take];omega),List.getElem?_take,if_pos h3] at hk
     obtain⟨u,hu,hr',h1'⟩:=hd.mm.box hi hk
     exact⟨u,by rw[setCells_cell _ _ _ _ _ (by omega)];exact hu,rep hr',h1'⟩
    ·by_cases h4:k < of+ys.length
     ·rw[List.getElem?_append_left (by rw[List.length_append,List.length_take];omega),List.getElem?_append_right (by rw[List.length_take];omega),List.length_take,Nat.min_eq_left (by omega)] at hk
      obtain⟨u,hu,hr'⟩:=hr.get hk
      refine⟨u,?_,rep hr',h1 u (List.mem_of_getElem? hu)⟩
      have:=setCells_in (g.ρ j).1 us ((g.ρ j).2+of) w (fun q hq=>by rw[Nat.add_assoc];exact hcell _ (by omega)) (k - of) u hu
      rwa [show(g.ρ j).2+of+(k - of)=(g.ρ j).2+k by omega] at this
     ·rw[List.getElem?_append_right (by rw[List.length_append,List.length_take];omega),List.length_append,List.length_take,Nat.min_eq_left (by omega),List.getElem?_drop,show of+ys.length+(k - (of+ys.length))=k by omega] at hk
      obtain⟨u,hu,hr',h1'⟩:=hd.mm.box hi hk
      exact⟨u,by rw[setCells_cell _ _ _ _ _ (by omega)];exact hu,rep hr',h1'⟩
   ·have hKj:isK st.bs j:=(kk j).1 (by unfold isK;rw[hj];rfl)
    unfold St.bset at hj
    dsimp only at hj
    rw[lk_cons_ne _ _ hji] at hj
    obtain⟨u,hu,hr',h1'⟩:=hd.mm.box hj hk
    exact⟨u,by rw[cell_old (hold _ (hd.mm.inj hKj hK hji))];exact hu,rep hr',h1'⟩
  ·intro j hj q
   by_cases hji:j=i
   ·subst hji;exact hfz q
   ·rw[frozen_old (hold _ (hd.mm.inj ((kk j).1 hj) hK hji))];exact hd.mm.frz ((kk j).1 hj) q
  ·intro k e hk
   obtain⟨n,vals,o1,o2⟩:=hd.mm.own hk
   refine⟨n,vals,o1.kept hg ?_,fun b hb=>⟨(o2 b hb).1,fun j hj=>(o2 b hb).2 j ((kk j).1 hj)⟩⟩
   cases hb:(g.κ k).ownBlock with
   | none=>exact .inl rfl
   | some b=>exact .inr fun e=>(o2 b hb).2 i hK (by simpa using e.symm)
  ·obtain⟨u,hu⟩:=hd.mm.Lc h
   exact⟨u,(hs.c b o u h hu).2⟩
  ·have hj':=(kk j).1 hj
   by_cases hji:j=i
   ·subst hji;exact setCells_isC _ us _ w (hd.mm.bc hj')
   ·rw[hold _ (hd.mm.inj hj' hK hji)];exact hd.mm.bc hj'
 ·exact X.upd (S:=fun b=>b=(g.ρ i).1) (Upd.of_grown hg rfl) (fun b hb=>by rw[hb];exact hd.mm.bxE hK) hd.E
theorem ran_store(hT:TabOk P tb){o:Oper}{t:TypeId}{x y:Operand}(ho:o.op=.store t x y){a:Act}{w:World}{g:Gh}{st:St}{K:T→St→Prop}(hd:Hd P X base S st a w g)(hs:semOp tb C o st K)(hE:∀k e xs,st.ev x=.sub k (.el e xs)→Ran P X base S N st o a w g K):Ran P X base S N st o a w g K:=by
 unfold semOp at hs
 rw[ho] at hs
 dsimp only at hs
 split at hs <;> try exact hs.elim
 rename_i q hq
 obtain⟨s1,s2,s3,s4,s5,s6⟩:=hT.siz hq
 split at hs <;> try exact hs.elim
 rotate_left
 ·rename_i k e xs hx
  exact hE k e xs hx
 rename_i i of hx
 split at hs <;> try exact hs.elim
 rename_i cs hcs
 split at hs <;> try exact hs.elim
 rename_i ys hys
 split at hs <;> try exact hs.elim
 rename_i hn
 split at hs <;> try exact hs.elim
 rename_i hle
 rw[frcTs_eq] at hs
 have hn':ys.length=q.1:=Nat.eq_of_beq_eq_true hn
 have hle':of+q.1≤cs.length:=Nat.le_of_ble_eq_true hle
 have hev:=hd.ev x
 rw[hx] at hev
 have hev':a.eval x=.pointer (some ⟨(g.ρ i).1,(g.ρ i).2+of,none⟩):=hev
 obtain⟨c1,c2⟩:=cellsT_rep hys (hd.ev y)
 have hl:=c1.length
 obtain⟨h1,h2⟩:=hd.store (N:=N) hcs (of:=of) (ys:=ys) (by omega) c1 c2
 rw[hn'] at h1
 refine⟨.skip,undef,_,.un,_,_,?_,.inr ⟨rfl,rfl⟩,hs,trivial,h1,h2,fun b ok u hsf hnb hc=>?_⟩
 rotate_left
 ·have hne:b≠(g.ρ i).1:=fun e=>hnb (by unfold bad;rw[ho];exact⟨_,by rw[e];exact hev'⟩)
  have hg:=setCells_grown (g.ρ i).1 (a.eval y).cells.toList ((g.ρ i).2+of) w
  exact⟨cell_grown hc hg (fun e=>hne (Option.some.inj e)),Nat.lt_of_lt_of_le hsf.1 hg.size,hsf.2⟩
 have hK:isK st.bs i:=by unfold isK;rw[hcs];rfl
 have run:(storeVar t ⟨(g.ρ i).1,(g.ρ i).2+of,none⟩ (a.eval y)).run P w=.ok () (w.setCells (g.ρ i).1 ((g.ρ i).2+of) (a.eval y).cells.toList):=by
  unfold storeVar
  simp only[Sem.run_bind,run_sizeOf' s1,Result.andThen_ok,s2]
  rw[if_neg (by rw[←Array.length_toList,hl,hn'];simp)]
  exact run_storeCells_cells (P:=P) _ _ _ 0 w (fun j hj=>by
   obtain⟨u,hu,_⟩:=hd.mm.box hcs (j:=of+j) (List.getElem?_eq_getElem (by omega))
   rw[Nat.add_zero,Nat.add_assoc,hu];rfl) (fun j hj=>hd.mm.frz hK _) c2
 unfold execOp
 simp only[ho,hev',Instr.storeAt,Instr.sureAddr,Sem.run_bind,Sem.run_pure,Result.andThen_ok,run]
end Go.Proofs.YtknelogmocedeaaGreatDoor
namespace Go.Proofs.YtknelogmocedeaaGreatDoor
open Go.RowKit
set_option linter.unusedVariables false
variable {P : Program} {X : En} {base N : Nat} {S : Nat → Prop} {tb : Tab} {C : Con}
theorem fill_set{L:Lv}{w:World}{z x:List V}{cells cv:Array Value}{of:Nat}(hz:RepL w L z cells.toList)(hx:RepL w L x cv.toList)(hle:of+x.length≤z.length):
  RepL w L (z.take of++x++z.drop (of+x.length)) (cv.zipIdx.foldl (fun cs (c,j)=>cs.setIfInBounds (of+j) c) cells).toList:=by
 have hxl:=hx.length
 have hzl:=hz.length
 rw[Array.length_toList] at hxl hzl
 have e:(cv.zipIdx.foldl (fun cs (c,j)=>cs.setIfInBounds (of+j) c) cells).toList=cells.toList.take of++cv.toList++cells.toList.drop (of+x.length):=by
  rw[←Array.foldl_toList,Array.toList_zipIdx]
  obtain⟨g1,g2⟩:=Great.foldl_set of cv.toList 0 cells
  apply List.ext_getElem?
  intro k
  rw[Array.getElem?_toList]
  have:=g2 k
  have e1:cv.toList.length=cv.size:=Array.length_toList
  have e2:cells.toList.length=cells.size:=Array.length_toList
  simp only[Nat.add_zero] at this
  refine this.trans ?_
  by_cases h1:k < of
  ·rw[if_neg (by omega),List.append_assoc,List.getElem?_append_left (by rw[List.length_take,e2];omega),List.getElem?_take,if_pos h1,Array.getElem?_toList]
  ·by_cases h2:k < of+cv.size
   ·rw[if_pos (by omega),List.getElem?_append_left (by rw[List.length_append,List.length_take,e2,e1];omega),List.getElem?_append_right (by rw[List.length_take,e2];omega),List.length_take,e2,Nat.min_eq_left (by omega)]
   ·rw[if_neg (by omega),List.getElem?_append_right (by rw[List.length_append,List.length_take,e2,e1];omega),List.length_append,List.length_take,e2,e1,Nat.min_eq_left (by omega),List.getElem?_drop,Array.getElem?_toList]
    congr 1;omega
 rw[e]
 exact((hz.take of).append hx).append (hz.drop _)
theorem cells_repl{w:World}{L:Lv}{x:V}{v:Value}(h:Rep w L x v)(h1:x.one=true∨∃l,x=.agg l):RepL w L x.cells v.cells.toList:=by
 rcases h1 with h1 | ⟨l,rfl⟩
 ·have hc:=Rep.one_val h1 h
  have e1:x.cells=[x]:=by cases x <;> first | rfl | cases h1
  have e2:v.cells=#[v]:=by cases v <;> first | rfl | cases hc
  rw[e1,e2]
  exact⟨v,[],rfl,h1,h,rfl⟩
 ·obtain⟨cs,rfl,hr⟩:=h
  exact hr
theorem V.part_one {x:V}(h:x.part=true):x.one=true∨∃l,x=.agg l:=by
 cases x <;> first | exact .inl rfl | exact .inr ⟨_,rfl⟩ | exact .inl h
theorem fill_rep{w:World}{L:Lv}{fs:List (Nat×Nat×Bool)}{pl:Nat→Option (Nat×Nat)}(hpl:∀i q,fs[i]? =some q→pl i=some (q.1,q.2.1))(ev:Operand→Option V)(ea:Operand→Value)(hev:∀x y,ev x=some y→Rep w L y (ea x)):
  ∀(ps:List (Nat×Operand)) (z z':List V) (cells:Array Value),RepL w L z cells.toList→fillV fs z (ps.map fun p=>(p.1,ev p.2))=some z'→∃cells',Instr.fill pl cells (ps.map fun p=>(p.1,ea p.2))=some cells'∧RepL w L z' cells'.toList
 | [],z,z',cells,hz,h=>by
  cases h
  exact⟨cells,rfl,hz⟩
 | p::r,z,z',cells,hz,h=>by
  rw[List.map_cons] at h
  unfold fillV at h
  dsimp only at h
  split at h <;> try cases h
  rename_i x hx
  split at h <;> try cases h
  rename_i q hq
  split at h <;> try cases h
  rename_i h1
  split at h <;> try cases h
  rename_i h2
  have h1':x.cells.length=q.2.1:=Nat.eq_of_beq_eq_true h1
  rw[Bool.and_eq_true] at h2
  have h2':=Nat.le_of_ble_eq_true h2.1
  have r1:=hev _ _ hx
  have r2:=h2.2
  have hc:=cells_repl r1 (V.part_one r2)
  have hcl:=hc.length
  have hzl:=hz.length
  rw[Array.length_toList] at hcl hzl
  obtain⟨cells',f1,f2⟩:=fill_rep hpl ev ea hev r _ z' _ (fill_set hz hc (of:=q.1) (by omega)) (by rw[h1'];exact h)
  refine⟨cells',?_,f2⟩
  rw[List.map_cons]
  unfold Instr.fill
  dsimp only
  rw[hpl _ _ hq]
  dsimp only
  rw[if_neg (by simp;omega)]
  exact f1
theorem ran_build(hT:TabOk P tb){o:Oper}{t:TypeId}{ps:Array (Nat×Operand)}(ho:o.op=.build t ps){a:Act}{w:World}{g:Gh}{st:St}{K:T→St→Prop}(hd:Hd P X base S st a w g)(hs:semOp tb C o st K):RanQ P st o a w g K:=by
 unfold semOp at hs
 rw[ho] at hs
 dsimp only at hs
 split at hs <;> try exact hs.elim
 rename_i z hz
 split at hs <;> try exact hs.elim
 rename_i fs hfs
 split at hs <;> try exact hs.elim
 rename_i cs hcs
 obtain⟨i,v,z1,z2,z3,z4⟩:=hT.zer hz
 obtain⟨fa,f1,f2,f3⟩:=hT.fld hfs
 have hpl:∀(l:List Field),l.all (fun f=>(P.info? f.type).isSome&&(P.underlying f.type).isSome&&P.cellsOf f.type != 0)=true→l.mapM (fun f=>(P.info? f.type).map fun i=>(f.offset,i.size))=some (l.map fun f=>(f.offset,P.cellsOf f.type)):=by
  intro l
  induction l with
  | nil=>intro _;rfl
  | cons f r ih=>
   intro h
   rw[List.all_cons,Bool.and_eq_true] at h
   obtain⟨i,hi⟩:=Option.isSome_iff_exists.1 (show(P.info? f.type).isSome=true by have:=h.1;simp only[Bool.and_eq_true] at this;exact this.1.1)
   rw[List.mapM_cons,ih h.2,hi]
   simp[Program.cellsOf,hi]
 obtain⟨cells',b1,b2⟩:=fill_rep (w:=w) (L:=g.L) (fs:=fs) (pl:=fun x=>(fa.toList.map fun f=>(f.offset,P.cellsOf f.type)).toArray[x]?) (fun i q hq=>by
  rw[←f2,List.getElem?_map] at hq
  obtain⟨fd,hfd,rfl⟩:=Option.map_eq_some_iff.1 hq
  simp[hfd]) (fun x=>(st.ev x).toV) a.eval (fun x y hy=>toV_rep (hd.ev x) hy) ps.toList z cs v.cells (by rw[z3];exact zv_repl z4) hcs
 have hr:∀W,(execOp a.eval o).run P W=.ok (.value (.agg cells')) W:=by
  have hb:P.built t (ps.map fun(i,x)=>(i,a.eval x)).toList=some cells':=by
   unfold Program.built
   simp only[z1,f1,z2,hpl _ f3]
   rw[Array.toList_map]
   exact b1
  intro W
  unfold execOp
  simp only[ho,Sem.run_bind,run_build W t _ cells' hb,Result.andThen_ok,Sem.run_pure]
 split at hs
 ·exact ranq hd (t:=.v (.agg cs)) (v:=.agg cells') hr ⟨_,rfl,b2⟩ hs
 ·exact ranq hd (t:=.v (.agg (cs.map V.nz1))) (v:=.agg cells') hr ⟨_,rfl,nzL_rep b2⟩ hs
theorem bound_run{st:St}{a:Act}{w:World}{g:Gh}(hd:Hd P X base S st a w g){lo hi:Option Operand}{len cap:Nat}{l h:Int}{p q:Nat}(isS:Bool)(hl:boundT st 0 lo=some l)(hh:boundT st len hi=some h)(e1:l=p)(e2:h=q)(h1:p≤q)(h2:q≤len)(h3:len≤cap):∀W:World,(Instr.sliceBounds isS len cap (lo.map a.eval) (hi.map a.eval) none).run P W=.ok (p,q,cap) W:=by
 intro W
 have sb:∀(x:Operand) (n:Int) (r y:Nat) (code:BoundsCode),(match st.ev x with | .v (.int .i64 n)=>some n | _=>none)=some n→n=r→r≤y→(Instr.sliceBound (a.eval x) y code).run P W=.ok r W:=fun x n r y code hx hn hr=>by
  have he:=hd.ev x
  split at hx
  ·rename_i m hm
   cases hx
   rw[hm] at he
   have he':a.eval x=.int .i64 n:=he
   subst hn
   simp only[Instr.sliceBound,he',asIntOf,Sem.run_bind,Sem.run_pure,Result.andThen_ok]
   rw[if_pos ⟨by omega,by omega⟩]
   rfl
  ·cases hx
 unfold Instr.sliceBounds
 cases lo with
 | none=>
  have hp:p=0:=by unfold boundT at hl;cases hl;omega
  subst hp
  cases hi with
  | none=>
   have hq:q=len:=by unfold boundT at hh;cases hh;omega
   subst hq
   simp
  | some y=>
   have:=sb y h q cap (if isS then .sliceAcap else .sliceAlen) hh e2 (by omega)
   simp[this]
 | some x=>
  cases hi with
  | none=>
   have hq:q=len:=by unfold boundT at hh;cases hh;omega
   subst hq
   have:=sb x l p q .sliceB hl e1 h1
   simp[this]
  | some y=>
   have i1:=sb y h q cap (if isS then .sliceAcap else .sliceAlen) hh e2 (by omega)
   have i2:=sb x l p q .sliceB hl e1 h1
   simp[i1,i2]
theorem bound3_run{st:St}{a:Act}{w:World}{g:Gh}(hd:Hd P X base S st a w g){lo:Option Operand}{hi y:Operand}{len cap:Nat}{l h m:Int}{p q r:Nat}(hl:boundT st 0 lo=some l)(hh:boundT st 0 (some hi)=some h)(hm:boundT st 0 (some y)=some m)(e1:l=p)(e2:h=q)(e3:m=r)(h1:p≤q)(h2:q≤r)(h3:r≤cap):∀W:World,(Instr.sliceBounds true len cap (lo.map a.eval) (some (a.eval hi)) (some (a.eval y))).run P W=.ok (p,q,r) W:=by
 intro W
 have sb:∀(x:Operand) (n:Int) (r y:Nat) (code:BoundsCode),(match st.ev x with | .v (.int .i64 n)=>some n | _=>none)=some n→n=r→r≤y→(Instr.sliceBound (a.eval x) y code).run P W=.ok r W:=fun x n r y code hx hn hr=>by
  have he:=hd.ev x
  split at hx
  ·rename_i m hm
   cases hx
   rw[hm] at he
   have he':a.eval x=.int .i64 n:=he
   subst hn
   simp only[Instr.sliceBound,he',asIntOf,Sem.run_bind,Sem.run_pure,Result.andThen_ok]
   rw[if_pos ⟨by omega,by omega⟩]
   rfl
  ·cases hx
 unfold Instr.sliceBounds
 have i1:=sb y m r cap .slice3Acap hm e3 h3
 have i2:=sb hi h q r .slice3B hh e2 h2
 cases lo with
 | none=>
  have hp:p=0:=by unfold boundT at hl;cases hl;omega
  subst hp
  simp[i1,i2]
 | some x=>
  have i3:=sb x l p q .slice3C hl e1 h1
  simp[i1,i2,i3]
theorem ran_sliceS(hT:TabOk P tb){o:Oper}{t:TypeId}{x:Operand}{lo hi mx:Option Operand}(ho:o.op=.slice t x lo hi mx){a:Act}{w:World}{g:Gh}{st:St}{K:T→St→Prop}(hd:Hd P X base S st a w g)(hs:semSlice tb t x lo hi mx st K):RanQ P st o a w g K:=by
 unfold semSlice at hs
 split at hs
 ·rename_i y
  split at hs <;> try exact hs.elim
  rename_i xs hx
  split at hs <;> try exact hs.elim
  rename_i e he
  split at hs <;> try exact hs.elim
  rename_i q0 hq0
  obtain⟨s1,s2,s3,s4,s5,s6⟩:=hT.siz hq0
  split at hs <;> try exact hs.elim
  rename_i l hl
  split at hs <;> try exact hs.elim
  rename_i hi'
  split at hs <;> try exact hs.elim
  rename_i h hh
  split at hs <;> try exact hs.elim
  rename_i m hm
  obtain⟨p,q,r,e1,e2,e3,h1,h2,h3,h4,z,rfl,hK⟩:=hs
  obtain⟨A,c,hv,hle,hne⟩:=toV_rep (hd.ev x) hx
  have hu:=hT.elt he
  refine ranq hd (t:=.v (.sl ((xs.take q).drop p))) (v:=.slice (if r=p then A else A.map (·.add (p*P.cellsOf e))) (q - p) (r - p)) ?_ ?_ hK
  ·intro W
   unfold execOp
   simp only[ho,hv,Instr.sliceAt,Instr.slice,Sem.run_bind,run_underlying hu,Result.andThen_ok,Option.map_some,bound3_run hd (len:=xs.length) (cap:=c) hl hh hm e1 e2 e3 h1 h2 (by omega),run_sizeOf' s1,Sem.run_pure]
  ·refine⟨_,r - p,by rw[List.length_drop,List.length_take,Nat.min_eq_left (by omega)],by rw[List.length_drop,List.length_take];omega,fun hn=>?_⟩
   have hpq:p < q:=by
    rcases Nat.lt_or_ge p q with h | h
    ·exact h
    ·exact absurd (List.drop_eq_nil_of_le (by rw[List.length_take];omega)) hn
   obtain⟨b,of,k,rfl,hr⟩:=hne (by rintro rfl;simp at h3;omega)
   have hk:k=q0.1:=by
    have h0:xs[0]? =some (xs[0]'(by omega)):=List.getElem?_eq_getElem _
    rw[←(hr.get h0).1,h4 _ (List.mem_of_getElem? h0)]
   rw[if_neg (by omega)]
   refine⟨b,of+p*k,k,?_,(hr.take q).drop p⟩
   simp only[Option.map_some,Addr.add_mid,s2,hk]
 split at hs <;> try exact hs.elim
 ·rename_i s hx
  split at hs <;> try exact hs.elim
  rename_i hst
  split at hs <;> try exact hs.elim
  rename_i l hl
  split at hs <;> try exact hs.elim
  rename_i h hh
  obtain⟨p,q,e1,e2,h1,h2,z,rfl,hK⟩:=hs
  have hv:a.eval x=.string s:=toV_rep (hd.ev x) hx
  have hu:=hT.str (t:=t) (by rw[hst];rfl)
  refine ranq hd (t:=.v (.str (s.extract p q))) (v:=.string (s.extract p q)) ?_ rfl hK
  intro W
  unfold execOp
  simp only[ho,hv,Instr.sliceAt,Instr.slice,Sem.run_bind,run_underlying hu,Result.andThen_ok,bound_run hd false hl hh e1 e2 h1 h2 (Nat.le_refl _),Option.map_none,Option.isSome_none,Bool.false_eq_true,if_false,Sem.run_pure]
 ·rename_i xs hx
  split at hs <;> try exact hs.elim
  rename_i e he
  split at hs <;> try exact hs.elim
  rename_i q0 hq0
  obtain⟨s1,s2,s3,s4,s5,s6⟩:=hT.siz hq0
  split at hs <;> try exact hs.elim
  rename_i l hl
  split at hs <;> try exact hs.elim
  rename_i h hh
  obtain⟨p,q,e1,e2,h1,h2,h3,z,rfl,hK⟩:=hs
  obtain⟨A,c,hv,hle,hne⟩:=toV_rep (hd.ev x) hx
  have hu:=hT.elt he
  refine ranq hd (t:=.v (.sl ((xs.take q).drop p))) (v:=.slice (if c=p then A else A.map (·.add (p*P.cellsOf e))) (q - p) (c - p)) ?_ ?_ hK
  ·intro W
   unfold execOp
   simp only[ho,hv,Instr.sliceAt,Instr.slice,Sem.run_bind,run_underlying hu,Result.andThen_ok,Option.map_none,bound_run hd true hl hh e1 e2 h1 h2 hle,run_sizeOf' s1,Sem.run_pure]
  ·refine⟨_,c - p,by rw[List.length_drop,List.length_take,Nat.min_eq_left h2],by rw[List.length_drop,List.length_take];omega,fun hn=>?_⟩
   have hpq:p < q:=by
    rcases Nat.lt_or_ge p q with h | h
    ·exact h
    ·exact absurd (List.drop_eq_nil_of_le (by rw[List.length_take];omega)) hn
   obtain⟨b,of,k,rfl,hr⟩:=hne (by rintro rfl;simp at h2;omega)
   have hk:k=q0.1:=by
    have h0:xs[0]? =some (xs[0]'(by omega)):=List.getElem?_eq_getElem _
    rw[←(hr.get h0).1,h3 _ (List.mem_of_getElem? h0)]
   rw[if_neg (by omega)]
   refine⟨b,of+p*k,k,?_,(hr.take q).drop p⟩
   simp only[Option.map_some,Addr.add_mid,s2,hk]
theorem ran_slice(hT:TabOk P tb){o:Oper}{t:TypeId}{x:Operand}{lo hi mx:Option Operand}(ho:o.op=.slice t x lo hi mx){a:Act}{w:World}{g:Gh}{st:St}{K:T→St→Prop}(hd:Hd P X base S st a w g)(hs:semOp tb C o st K):RanQ P st o a w g K:=by
 unfold semOp at hs
 rw[ho] at hs
 dsimp only at hs
 split at hs
 ·exact ran_sliceS hT ho hd hs
 split at hs
 rotate_left
 ·exact ran_sliceS hT ho hd hs
 rename_i k e xs hx
 split at hs <;> try exact hs.elim
 rename_i y
 split at hs <;> try exact hs.elim
 rename_i h hh
 split at hs <;> try exact hs.elim
 rename_i e' he
 split at hs <;> try exact hs.elim
 rename_i q0 hq0
 obtain⟨s1,s2,s3,s4,s5,s6⟩:=hT.siz hq0
 obtain⟨m,e1,h1,hK⟩:=hs
 have hev:=hd.ev x
 rw[hx] at hev
 obtain⟨⟨A,c,hv,hle,hne⟩,hκ,_⟩:=hev
 have hu:=hT.elt he
 have hl:boundT st 0 none=some 0:=rfl
 refine ranq hd (t:=.sub k (.pre m)) (v:=.slice A m c) ?_ ⟨A,xs.length,c,hκ.symm.trans hv,rfl,h1⟩ hK
 intro W
 unfold execOp
 have hb:∀W:World,(Instr.sliceBounds true xs.length c none (some (a.eval y)) none).run P W=.ok (0,m,c) W:=fun W=>bound_run hd (lo:=none) (hi:=some y) (len:=xs.length) (cap:=c) (l:=0) (h:=h) (p:=0) (q:=m) true hl hh rfl e1 (Nat.zero_le _) h1 hle W
 simp only[ho,hv,Instr.sliceAt,Instr.slice,Sem.run_bind,run_underlying hu,Result.andThen_ok,Option.map_none,Option.map_some,hb,run_sizeOf' s1,Sem.run_pure]
 by_cases hc:c=0
 ·have:m=0:=by omega
  subst this
  simp[hc]
 ·have e0:∀B:Addr,B.add (0*P.cellsOf e')=B:=fun B=>by unfold Addr.add;rw[if_pos (Nat.zero_mul _)]
  rw[if_neg hc]
  cases A with
  | none=>simp
  | some B=>simp[Addr.add]
end Go.Proofs.YtknelogmocedeaaGreatDoor
