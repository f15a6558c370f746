/- How a state of the walk without memory stands for a frame and a world; what the program's types must say; what a function's contract is. Definitions and small lemmas; whatever program. -/
import Derived.Test.YtknelogmocedeaaGreatDoorR02
import Derived.Deep.MidRow
import Derived.CallsIn
import Derived.OwnWalkIn
import Derived.RangeFuncOwn
namespace Go.Proofs.YtknelogmocedeaaGreatDoor
open Go.RowKit
set_option linter.unusedVariables false
variable {P : Program}
structure Gh where
 L:Lv
 ρ:Nat→Nat×Nat
 κ:Nat→Value
def SbRep(P:Program)(w:World)(L:Lv)(u:Value):Sb→Value→Prop
 | .pre m,v=>∃A n c,u=.slice A n c∧v=.slice A m c∧m≤n
 | .ext e xs,v=>∃b c,u=.slice (some ⟨b,0,none⟩) xs.length c∧v=.slice (some ⟨b,0,none⟩) (xs.length+1) c∧xs.length+1≤c∧Rep w L (.sl xs) u∧∀x∈xs,x.length=P.cellsOf e
 | .el e xs,v=>∃b c,u=.slice (some ⟨b,0,none⟩) xs.length c∧v=.pointer (some ⟨b,xs.length*P.cellsOf e,none⟩)∧xs.length+1≤c∧Rep w L (.sl xs) u∧∀x∈xs,x.length=P.cellsOf e
 | .ag e l xs r,v=>∃ls rs,v=.agg (ls++u::rs).toArray∧RepL w L l ls∧RepL w L r rs∧Rep w L (.sl xs) u∧∀x∈xs,x.length=P.cellsOf e
theorem SbRep.mono {w w':World}{L L':Lv}(h:Same L w L' w'){u:Value}:∀{m:Sb} {v:Value},SbRep P w L u m v→SbRep P w' L' u m v
 | .pre m,v,r=>r
 | .ext e xs,v,⟨b,c,h1,h2,h3,h4,h5⟩=>⟨b,c,h1,h2,h3,Rep.mono h _ _ h4,h5⟩
 | .el e xs,v,⟨b,c,h1,h2,h3,h4,h5⟩=>⟨b,c,h1,h2,h3,Rep.mono h _ _ h4,h5⟩
 | .ag e l xs r,v,⟨ls,rs,h1,h2,h3,h4,h5⟩=>⟨ls,rs,h1,RepL.mono h _ _ h2,RepL.mono h _ _ h3,Rep.mono h _ _ h4,h5⟩
mutual
def RepT(P:Program)(w:World)(g:Gh):T→Value→Prop
 | .un,_=>True
 | .v x,v=>Rep w g.L x v
 | .own k e xs,v=>Rep w g.L (.sl xs) v∧v=g.κ k∧∀c∈xs,c.length=P.cellsOf e
 | .ptr i o,v=>v=.pointer (some ⟨(g.ρ i).1,(g.ρ i).2+o,none⟩)
 | .ro cs,v=>∃b o,v=.pointer (some ⟨b,o,none⟩)∧RepC w g.L b o cs
 | .fn f caps,v=>∃cs,v=.func (.func f) #[] cs∧RepTs P w g caps cs.toList
 | .tup l,v=>∃cs,v=.tuple cs∧RepTs P w g l cs.toList
 | .sub k m,v=>SbRep P w g.L (g.κ k) m v
def RepTs(P:Program)(w:World)(g:Gh):List T→List Value→Prop
 | [],cs=>cs=[]
 | t::r,cs=>∃u us,cs=u::us∧RepT P w g t u∧RepTs P w g r us
end
mutual
theorem RepT.mono {w w':World}{g g':Gh}(h:Same g.L w g'.L w'):∀(t:T) (v:Value),(∀i,t.hasP i=true→g'.ρ i=g.ρ i)→(∀k,t.hasK k=true→g'.κ k=g.κ k)→RepT P w g t v→RepT P w' g' t v
 | .un,_,_,_,_=>trivial
 | .v x,v,_,_,r=>Rep.mono h x v r
 | .own k e xs,v,_,hk,⟨r,e1,e2⟩=>⟨Rep.mono h _ v r,by rw[hk k (by simp[T.hasK])];exact e1,e2⟩
 | .ptr i o,v,hp,_,r=>by rw[RepT] at r ⊢;rw[hp i (by simp[T.hasP])];exact r
 | .ro cs,v,_,_,⟨b,o,e,r⟩=>⟨b,o,e,RepC.mono h b cs o r⟩
 | .fn f caps,v,hp,hk,⟨cs,e,r⟩=>⟨cs,e,RepTs.mono h caps _ (fun i hi=>hp i (by simpa [T.hasP] using hi)) (fun k hk'=>hk k (by simpa [T.hasK] using hk')) r⟩
 | .tup l,v,hp,hk,⟨cs,e,r⟩=>⟨cs,e,RepTs.mono h l _ (fun i hi=>hp i (by simpa [T.hasP] using hi)) (fun k hk'=>hk k (by simpa [T.hasK] using hk')) r⟩
 | .sub k m,v,_,hk,r=>by rw[RepT] at r ⊢;rw[hk k (by simp[T.hasK])];exact SbRep.mono h r
theorem RepTs.mono {w w':World}{g g':Gh}(h:Same g.L w g'.L w'):∀(l:List T) (cs:List Value),(∀i,T.hasPs i l=true→g'.ρ i=g.ρ i)→(∀k,T.hasKs k l=true→g'.κ k=g.κ k)→RepTs P w g l cs→RepTs P w' g' l cs
 | [],_,_,_,r=>r
 | t::r,cs,hp,hk,⟨u,us,e,h1,h2⟩=>⟨u,us,e,RepT.mono h t u (fun i hi=>hp i (by simp[T.hasPs,hi])) (fun k hk'=>hk k (by simp[T.hasKs,hk'])) h1,RepTs.mono h r us (fun i hi=>hp i (by simp[T.hasPs,hi])) (fun k hk'=>hk k (by simp[T.hasKs,hk'])) h2⟩
end
theorem RepT.same {w w':World}{g g':Gh}(h:Same g.L w g'.L w')(hp:g'.ρ=g.ρ)(hk:g'.κ=g.κ){t:T}{v:Value}(r:RepT P w g t v):RepT P w' g' t v:=
 RepT.mono h t v (fun _ _=>by rw[hp]) (fun _ _=>by rw[hk]) r
theorem toV_rep{w:World}{g:Gh}{t:T}{v:Value}{x:V}(h:RepT P w g t v)(e:t.toV=some x):Rep w g.L x v:=by
 cases t with
 | v y=>cases e;exact h
 | own k e xs=>cases e;exact h.1
 | _=>cases e
structure En where
 E:World→Prop
 Eb:Nat→Prop
 lt:∀{w b},E w→Eb b→b < w.heap.size
 upd:∀{S:Nat→Prop} {w w'},Upd S w w'→(∀b,S b→¬Eb b)→E w→E w'
 gv:Nat→V→Prop
 gl:∀{w gn v},E w→gv gn v→Eb gn∧∃u,w.cell? ⟨gn,0,none⟩=some u∧v.one=true∧∀L:Lv,Rep w L v u
structure En.Le (X X0:En):Prop where
 e:∀w,X.E w→X0.E w
 b:∀b,X0.Eb b→X.Eb b
def isK(bs:List (Nat×List T))(i:Nat):Prop:=(lk i bs).isSome=true
structure Mm(P:Program)(X:En)(base:Nat)(S:Nat→Prop)(w:World)(g:Gh)(bs:List (Nat×List T))(lv:List (Nat×Option Nat)):Prop where
 box:∀{i cs},lk i bs=some cs→∀{j c},cs[j]? =some c→∃u,w.cell? ⟨(g.ρ i).1,(g.ρ i).2+j,none⟩=some u∧RepT P w g c u∧u.oneCell'=true
 frz:∀{i},isK bs i→∀j,w.frozen? ⟨(g.ρ i).1,j,none⟩=false
 bxL:∀{i},isK bs i→∀j,¬g.L (g.ρ i).1 j
 bxE:∀{i},isK bs i→¬X.Eb (g.ρ i).1
 loc:∀{i},isK bs i→S (g.ρ i).1∨base≤(g.ρ i).1
 lt:∀{i},isK bs i→(g.ρ i).1 < w.heap.size
 inj:∀{i j},isK bs i→isK bs j→i≠j→(g.ρ i).1≠(g.ρ j).1
 own:∀{k e},lget lv k=some e→∃n vals,w.ownsRow base e (P.cellsOf e) (g.κ k) n vals∧∀b,(g.κ k).ownBlock=some b→(∀o,g.L b o→o < n*P.cellsOf e)∧∀i,isK bs i→(g.ρ i).1≠b
 ownInj:∀{k k' e e'},lget lv k=some e→lget lv k'=some e'→k≠k'→(g.κ k).ownBlock=none∨(g.κ k).ownBlock≠(g.κ k').ownBlock
 Lc:∀{b o},g.L b o→∃u,w.cell? ⟨b,o,none⟩=some u
 bc:∀{i},isK bs i→∃c t fr,w.heap[(g.ρ i).1]? =some (.cells c t fr)
 ownE:∀{k e b},lget lv k=some e→(g.κ k).ownBlock=some b→¬X.Eb b
theorem Mm.Llt {X:En}{base:Nat}{S:Nat→Prop}{w:World}{g:Gh}{bs:List (Nat×List T)}{lv:List (Nat×Option Nat)}(h:Mm P X base S w g bs lv){b o:Nat}(hL:g.L b o):b < w.heap.size:=by
 obtain⟨u,hu⟩:=h.Lc hL
 exact World.block_lt_of_cell? w _ hu
structure Hd(P:Program)(X:En)(base:Nat)(S:Nat→Prop)(st:St)(a:Act)(w:World)(g:Gh):Prop where
 sz:a.tmps.size=st.n
 env:∀t,RepT P w g (tget st.env t) (a.eval (.tmp t))
 mm:Mm P X base S w g st.bs st.lv
 E:X.E w
 le:base≤w.heap.size
structure Stp(X:En)(base:Nat)(S:Nat→Prop)(N:Nat)(w:World)(g:Gh)(w':World)(g':Gh):Prop where
 upd:Upd (fun b=>S b∨base≤b) w w'
 same:Same g.L w g'.L w'
 newL:∀{b o},g'.L b o→g.L b o∨(base≤b∧¬X.Eb b)
 rho:∀{i},N≤i→g'.ρ i=g.ρ i
 obj:∀{k:Nat} {o:Obj},w.heap[k]? =some o→o.isCells=false→w'.heap[k]? =some o
def Safe(w:World)(g:Gh)(lv:List (Nat×Option Nat))(b o:Nat):Prop:=b < w.heap.size∧(g.L b o∨∀k e,lget lv k=some e→(g.κ k).ownBlock≠some b)
def Tame(w:World)(g:Gh)(lv:List (Nat×Option Nat))(w':World)(g':Gh)(lv':List (Nat×Option Nat)):Prop:=
 ∀b o u,Safe w g lv b o→w.cell? ⟨b,o,none⟩=some u→w'.cell? ⟨b,o,none⟩=some u∧Safe w' g' lv' b o
def bad(o:Oper)(a:Act)(b:Nat):Prop:=match o.op with
 | .store _ x _=>∃q,a.eval x=.pointer (some ⟨b,q,none⟩)
 | op=>Op.isStore op=true
def TameB(B:Nat→Prop)(w:World)(g:Gh)(lv:List (Nat×Option Nat))(w':World)(g':Gh)(lv':List (Nat×Option Nat)):Prop:=
 ∀b o u,Safe w g lv b o→¬B b→w.cell? ⟨b,o,none⟩=some u→w'.cell? ⟨b,o,none⟩=some u∧Safe w' g' lv' b o
theorem Tame.b {w w':World}{g g':Gh}{lv lv':List (Nat×Option Nat)}{B:Nat→Prop}(h:Tame w g lv w' g' lv'):TameB B w g lv w' g' lv':=fun b o u h1 _ h2=>h b o u h1 h2
theorem bad_store{o:Oper}{a:Act}{b:Nat}(h:bad o a b):Op.isStore o.op=true:=by
 unfold bad at h
 split at h
 ·rename_i e;rw[e];rfl
 ·exact h
theorem Tame.refl (w:World)(g:Gh)(lv:List (Nat×Option Nat)):Tame w g lv w g lv:=fun _ _ _ h k=>⟨k,h⟩
theorem Stp.refl (X:En)(base:Nat)(S:Nat→Prop)(N:Nat)(w:World)(g:Gh):Stp X base S N w g w g:=⟨Upd.refl _ _,Same.refl _ _,fun h=>.inl h,fun _=>rfl,fun h _=>h⟩
theorem Stp.trans {X:En}{base:Nat}{S:Nat→Prop}{N:Nat}{w w1 w2:World}{g g1 g2:Gh}(h:Stp X base S N w g w1 g1)(k:Stp X base S N w1 g1 w2 g2):Stp X base S N w g w2 g2:=
 ⟨h.upd.trans k.upd,h.same.trans k.same,fun hh=>(k.newL hh).elim h.newL .inr,fun hi=>(k.rho hi).trans (h.rho hi),fun hk hc=>k.obj (h.obj hk hc) hc⟩
theorem lk_cons_eq{β:Type}(n:Nat)(x:β)(l:List (Nat×β)):lk n ((n,x)::l)=some x:=by simp[lk]
theorem lk_cons_ne{β:Type}{n m:Nat}(x:β)(l:List (Nat×β))(h:n≠m):lk n ((m,x)::l)=lk n l:=by
 have:Nat.beq n m=false:=by rw[←Bool.not_eq_true,Nat.beq_eq];exact h
 simp only[lk,this]
theorem St.put_lt {st:St}{d:Nat}(h:d < st.n)(t:T):st.put (some d) t={st with env:=(d,t)::st.env}:=by
 have:Nat.blt d st.n=true:=by rw[Nat.blt_eq];exact h
 obtain⟨n,env,bs,lv⟩:=st
 simp only[St.put,this]
theorem St.put_ge {st:St}{d:Nat}(h:¬d < st.n)(t:T):st.put (some d) t=st:=by
 have:Nat.blt d st.n=false:=by rw[←Bool.not_eq_true,Nat.blt_eq];exact h
 obtain⟨n,env,bs,lv⟩:=st
 simp only[St.put,this]
theorem Hd.put {X:En}{base:Nat}{S:Nat→Prop}{st:St}{a:Act}{w:World}{g:Gh}(h:Hd P X base S st a w g)(d:Option Nat){t:T}{v:Value}(r:RepT P w g t v):Hd P X base S (st.put d t) (a.put d v) w g:=by
 cases d with
 | none=>exact h
 | some d=>
  by_cases hd:d < st.n
  ·rw[St.put_lt hd]
   have hlt:d < a.tmps.size:=by rw[h.sz];exact hd
   refine⟨by simp[Act.put,h.sz],fun t'=>?_,h.mm,h.E,h.le⟩
   by_cases ht:t'=d
   ·subst ht
    simp only[tget,lk_cons_eq,Act.eval,Act.put]
    simpa [hlt] using r
   ·have h0:=h.env t'
    simp only[tget,lk_cons_ne _ _ ht]
    simp only[Act.eval,Act.put] at h0 ⊢
    rw[show(a.tmps.setIfInBounds d v).getD t' undef=a.tmps.getD t' undef by simp[Array.getElem?_setIfInBounds_ne (Ne.symm ht)]]
    exact h0
  ·rw[St.put_ge hd]
   have:a.put (some d) v=a:=by
    unfold Act.put
    simp only[Array.setIfInBounds,show ¬d < a.tmps.size by rw[h.sz];exact hd,dif_neg,not_false_eq_true]
   rw[this]
   exact h
theorem constV_rep{w:World}{L:Lv}{v:Value}{x:V}(h:constV v=some x):x.one=true∧Rep w L x v:=by
 unfold constV at h
 split at h <;> first | (cases h;exact⟨rfl,rfl⟩) | cases h
theorem constVs_rep{w:World}{L:Lv}:∀(vs:List Value) (l:List V),constVs vs=some l→RepL w L l vs
 | [],l,h=>by cases h;rfl
 | v::r,l,h=>by
  rw[constVs] at h
  split at h
  ·rename_i x hx
   split at h
   ·rename_i xs hxs
    cases h
    obtain⟨h1,h2⟩:=constV_rep (w:=w) (L:=L) hx
    exact⟨v,r,rfl,h1,h2,constVs_rep r xs hxs⟩
   ·cases h
  ·cases h
theorem constA_rep{w:World}{g:Gh}(cs:Array Value):RepT P w g (match constVs cs.toList with | some l=>.v (.agg l) | none=>.un) (.agg cs):=by
 split
 ·rename_i l hl
  exact⟨cs,rfl,constVs_rep _ _ hl⟩
 ·trivial
theorem Hd.ev {X:En}{base:Nat}{S:Nat→Prop}{st:St}{a:Act}{w:World}{g:Gh}(h:Hd P X base S st a w g)(x:Operand):RepT P w g (st.ev x) (a.eval x):=by
 cases x with
 | tmp t=>exact h.env t
 | func f=>exact⟨#[],rfl,rfl⟩
 | global g=>trivial
 | const v=>
  simp only[St.ev,Act.eval]
  unfold constT
  split <;> first | rfl | trivial | exact constA_rep _
theorem Hd.evs {X:En}{base:Nat}{S:Nat→Prop}{st:St}{a:Act}{w:World}{g:Gh}(h:Hd P X base S st a w g):∀l:List Operand,RepTs P w g (l.map st.ev) (l.map a.eval)
 | []=>rfl
 | x::r=>⟨_,_,rfl,h.ev x,h.evs r⟩
theorem RepTs.append {w:World}{g:Gh}:∀{l m:List T} {cs ds:List Value},RepTs P w g l cs→RepTs P w g m ds→RepTs P w g (l++m) (cs++ds)
 | [],m,_,ds,h,k=>by rw[show _=[] from h];exact k
 | x::xs,m,_,ds,⟨u,us,e,r,rs⟩,k=>⟨u,us++ds,by rw[e];rfl,r,rs.append k⟩
theorem RepTs.get {w:World}{g:Gh}:∀{l:List T} {cs:List Value} {i:Nat} {t:T},RepTs P w g l cs→l[i]? =some t→∃u,cs[i]? =some u∧RepT P w g t u
 | [],_,_,_,_,h=>by simp at h
 | y::xs,_,0,x,⟨u,us,e,r,_⟩,h=>by simp at h;subst h;exact⟨u,by rw[e];rfl,r⟩
 | y::xs,_,i+1,x,⟨u,us,e,_,rs⟩,h=>by
  obtain⟨z,hz,r⟩:=rs.get (i:=i) (by simpa using h)
  exact⟨z,by rw[e];simpa using hz,r⟩
theorem RepTs.length {w:World}{g:Gh}:∀{l:List T} {cs:List Value},RepTs P w g l cs→cs.length=l.length
 | [],_,r=>by rw[show _=[] from r];rfl
 | x::xs,_,⟨u,us,e,_,rs⟩=>by rw[e,List.length_cons,List.length_cons,rs.length]
mutual
theorem LeT.rep {w:World}{g:Gh}:∀(t t':T) (v:Value),LeT t t'→RepT P w g t v→RepT P w g t' v
 | t,.un,_,_,_=>trivial
 | .v x,.v y,v,h,r=>by
  rcases h with rfl | ⟨rfl,_⟩
  ·exact r
  ·exact nz_rep r
 | .own k e xs,.v y,v,h,r=>by rw[LeT] at h;subst h;exact r.1
 | .ptr i o,.ptr j p,v,h,r=>by obtain⟨rfl,rfl⟩:=h;exact r
 | .ro a,.ro b,v,h,r=>by rw[LeT] at h;subst h;exact r
 | .fn f cs,.fn f' ds,v,⟨h1,h2⟩,⟨us,e,r⟩=>by subst h1;exact⟨us,e,LeTs.rep cs ds us.toList h2 r⟩
 | .un,.v _,_,h,_=>by cases h
 | .un,.own _ _ _,_,h,_=>by cases h
 | .un,.ptr _ _,_,h,_=>by cases h
 | .un,.ro _,_,h,_=>by cases h
 | .un,.fn _ _,_,h,_=>by cases h
 | .un,.tup _,_,h,_=>by cases h
 | .v _,.own _ _ _,_,h,_=>by cases h
 | .v _,.ptr _ _,_,h,_=>by cases h
 | .v _,.ro _,_,h,_=>by cases h
 | .v _,.fn _ _,_,h,_=>by cases h
 | .v _,.tup _,_,h,_=>by cases h
 | .own _ _ _,.own _ _ _,_,h,_=>by cases h
 | .own _ _ _,.ptr _ _,_,h,_=>by cases h
 | .own _ _ _,.ro _,_,h,_=>by cases h
 | .own _ _ _,.fn _ _,_,h,_=>by cases h
 | .own _ _ _,.tup _,_,h,_=>by cases h
 | .ptr _ _,.v _,_,h,_=>by cases h
 | .ptr _ _,.own _ _ _,_,h,_=>by cases h
 | .ptr _ _,.ro _,_,h,_=>by cases h
 | .ptr _ _,.fn _ _,_,h,_=>by cases h
 | .ptr _ _,.tup _,_,h,_=>by cases h
 | .ro _,.v _,_,h,_=>by cases h
 | .ro _,.own _ _ _,_,h,_=>by cases h
 | .ro _,.ptr _ _,_,h,_=>by cases h
 | .ro _,.fn _ _,_,h,_=>by cases h
 | .ro _,.tup _,_,h,_=>by cases h
 | .fn _ _,.v _,_,h,_=>by cases h
 | .fn _ _,.own _ _ _,_,h,_=>by cases h
 | .fn _ _,.ptr _ _,_,h,_=>by cases h
 | .fn _ _,.ro _,_,h,_=>by cases h
 | .fn _ _,.tup _,_,h,_=>by cases h
 | .tup _,.v _,_,h,_=>by cases h
 | .tup _,.own _ _ _,_,h,_=>by cases h
 | .tup _,.ptr _ _,_,h,_=>by cases h
 | .tup _,.ro _,_,h,_=>by cases h
 | .tup _,.fn _ _,_,h,_=>by cases h
 | .tup _,.tup _,_,h,_=>by cases h
 | .sub _ _,.v _,_,h,_=>by cases h
 | .sub _ _,.own _ _ _,_,h,_=>by cases h
 | .sub _ _,.ptr _ _,_,h,_=>by cases h
 | .sub _ _,.ro _,_,h,_=>by cases h
 | .sub _ _,.fn _ _,_,h,_=>by cases h
 | .sub _ _,.tup _,_,h,_=>by cases h
 | .sub _ _,.sub _ _,_,h,_=>by cases h
 | .un,.sub _ _,_,h,_=>by cases h
 | .v _,.sub _ _,_,h,_=>by cases h
 | .own _ _ _,.sub _ _,_,h,_=>by cases h
 | .ptr _ _,.sub _ _,_,h,_=>by cases h
 | .ro _,.sub _ _,_,h,_=>by cases h
 | .fn _ _,.sub _ _,_,h,_=>by cases h
 | .tup _,.sub _ _,_,h,_=>by cases h
theorem LeTs.rep {w:World}{g:Gh}:∀(l m:List T) (cs:List Value),LeTs l m→RepTs P w g l cs→RepTs P w g m cs
 | [],[],_,_,r=>r
 | x::xs,y::ys,_,⟨h1,h2⟩,⟨u,us,e,r,rs⟩=>⟨u,us,e,LeT.rep x y u h1 r,LeTs.rep xs ys us h2 rs⟩
 | [],_::_,_,h,_=>by cases h
 | _::_,[],_,h,_=>by cases h
end
theorem LeEs.of:∀{l m:List T},LeTs l m→LeEs l m
 | [],[],_=>trivial
 | _::_,_::_,h=>⟨.inr h.1,LeEs.of h.2⟩
 | [],_::_,h=>h.elim
 | _::_,[],h=>h.elim
theorem LeEs.rep {w:World}{g:Gh}:∀{l m:List T} {cs:List Value},LeEs l m→RepTs P w g l cs→RepTs P w g m cs
 | [],[],_,_,r=>r
 | x::xs,y::ys,_,⟨h1,h2⟩,⟨u,us,e,r,rs⟩=>⟨u,us,e,by rcases h1 with rfl | h1;exact r;exact LeT.rep x y u h1 r,h2.rep rs⟩
 | [],_::_,_,h,_=>h.elim
 | _::_,[],_,h,_=>h.elim
mutual
theorem pure_hasP:∀(t:T) (i:Nat),t.pure=true→t.hasP i=false
 | .un,_,_=>rfl
 | .v _,_,_=>rfl
 | .own _ _ _,_,_=>rfl
 | .ptr _ _,_,h=>by cases h
 | .ro _,_,_=>rfl
 | .fn _ l,i,h=>pures_hasPs l i h
 | .tup l,i,h=>pures_hasPs l i h
 | .sub _ _,_,_=>rfl
theorem pures_hasPs:∀(l:List T) (i:Nat),T.pures l=true→T.hasPs i l=false
 | [],_,_=>rfl
 | t::r,i,h=>by
  rw[T.pures,Bool.and_eq_true] at h
  rw[T.hasPs,pure_hasP t i h.1,pures_hasPs r i h.2];rfl
end
mutual
theorem pure_hasK:∀(t:T) (i:Nat),t.pure=true→t.hasK i=false
 | .un,_,_=>rfl
 | .v _,_,_=>rfl
 | .own _ _ _,_,h=>by cases h
 | .ptr _ _,_,_=>rfl
 | .ro _,_,_=>rfl
 | .fn _ l,i,h=>pures_hasKs l i h
 | .tup l,i,h=>pures_hasKs l i h
 | .sub _ _,_,h=>by cases h
theorem pures_hasKs:∀(l:List T) (i:Nat),T.pures l=true→T.hasKs i l=false
 | [],_,_=>rfl
 | t::r,i,h=>by
  rw[T.pures,Bool.and_eq_true] at h
  rw[T.hasKs,pure_hasK t i h.1,pures_hasKs r i h.2];rfl
end
theorem RepT.pure {w w':World}{g g':Gh}{t:T}{v:Value}(hp:t.pure=true)(h:Same g.L w g'.L w')(r:RepT P w g t v):RepT P w' g' t v:=
 RepT.mono h t v (fun i hi=>by rw[pure_hasP t i hp] at hi;cases hi) (fun i hi=>by rw[pure_hasK t i hp] at hi;cases hi) r
theorem RepTs.pure {w w':World}{g g':Gh}{l:List T}{vs:List Value}(hp:T.pures l=true)(h:Same g.L w g'.L w')(r:RepTs P w g l vs):RepTs P w' g' l vs:=
 RepTs.mono h l vs (fun i hi=>by rw[pures_hasPs l i hp] at hi;cases hi) (fun i hi=>by rw[pures_hasKs l i hp] at hi;cases hi) r
def Fn(P:Program)(X:En):FuncId→List T→T→Prop:=fun f args r=>(∀(vs:Array Value) (w:World),(callFunc f vs).run P w=.ok (.enter f vs) w)∧∀(w:World) (L:Lv) (vs:List Value),X.E w→(∀{b o},L b o→∃u,w.cell? ⟨b,o,none⟩=some u)→RepTs P w ⟨L,fun _=>(0,0),fun _=>undef⟩ args vs→
 Calls P f vs.toArray w fun e w'=>∃v L',e=.returned v∧Below w.heap.size w w'∧Same L w L' w'∧(∀{b o},L' b o→L b o∨w.heap.size≤b)∧(∀{b o},L' b o→∃u,w'.cell? ⟨b,o,none⟩=some u)∧RepT P w' ⟨L',fun _=>(0,0),fun _=>undef⟩ r v
structure MemB(P:Program)(X:En)(w:World)(g:Gh)(css:List (List T)):Prop where
 box:∀{j cs},css[j]? =some cs→∀{k c},cs[k]? =some c→∃u,w.cell? ⟨(g.ρ j).1,(g.ρ j).2+k,none⟩=some u∧RepT P w g c u∧u.oneCell'=true
 frz:∀{j},j < css.length→∀k,w.frozen? ⟨(g.ρ j).1,k,none⟩=false
 bxL:∀{j},j < css.length→∀k,¬g.L (g.ρ j).1 k
 bxE:∀{j},j < css.length→¬X.Eb (g.ρ j).1
 lt:∀{j},j < css.length→(g.ρ j).1 < w.heap.size
 inj:∀{i j},i < css.length→j < css.length→i≠j→(g.ρ i).1≠(g.ρ j).1
 bc:∀{j},j < css.length→∃c t fr,w.heap[(g.ρ j).1]? =some (.cells c t fr)
theorem memB_nil{P:Program}{X:En}{w:World}{g:Gh}:MemB P X w g []:=⟨fun h=>(by simp at h),fun h=>(by simp at h),fun h=>(by simp at h),fun h=>(by simp at h),fun h=>(by simp at h),fun h=>(by simp at h),fun h=>(by simp at h)⟩
def FnM(P:Program)(X:En):ConF:=fun f css args r css'=>(∀(vs:Array Value) (w:World),(callFunc f vs).run P w=.ok (.enter f vs) w)∧css'.map List.length=css.map List.length∧∀(w:World) (g:Gh) (vs:List Value),X.E w→(∀{b o},g.L b o→∃u,w.cell? ⟨b,o,none⟩=some u)→MemB P X w g css→RepTs P w g args vs→
 Calls P f vs.toArray w fun e w'=>∃v L',e=.returned v∧Upd (fun b=>∃j,j < css.length∧b=(g.ρ j).1) w w'∧Same g.L w L' w'∧(∀{b o},L' b o→g.L b o∨w.heap.size≤b)∧(∀{b o},L' b o→∃u,w'.cell? ⟨b,o,none⟩=some u)∧MemB P X w' {g with L:=L'} css'∧(∀{k:Nat} {o:Obj},w.heap[k]? =some o→o.isCells=false→w'.heap[k]? =some o)∧RepT P w' {g with L:=L'} r v
def bndN:List Nat→Nat
 | []=>0
 | d::r=>max (d+1) (bndN r)
theorem bndN_not:∀{l:List Nat} {i:Nat},bndN l≤i→i∉l
 | [],_,_,h=>by cases h
 | d::r,i,hb,h=>by
  unfold bndN at hb
  rcases List.mem_cons.1 h with rfl | h
  ·omega
  ·exact bndN_not (l:=r) (i:=i) (by omega) h
def FnI(P:Program)(X:En)(f:FuncId)(args:List T)(bs:List (Nat×List T))(lv:List (Nat×Option Nat))(r:T)(bs':List (Nat×List T))(lv':List (Nat×Option Nat))(nw:List Nat):Prop:=
 (∀(vs:Array Value) (w:World),(callFunc f vs).run P w=.ok (.enter f vs) w)∧∀(X':En),X'.Le X→∀(base:Nat) (S:Nat→Prop) (w:World) (g:Gh) (vs:List Value),X'.E w→base≤w.heap.size→Mm P X' base S w g bs lv→RepTs P w g args vs→
 Calls P f vs.toArray w fun e w'=>∃v g',e=.returned v∧X'.E w'∧Stp X' base S (bndN nw) w g w' g'∧(∀i,i∉nw→g'.ρ i=g.ρ i)∧Mm P X' base S w' g' bs' lv'∧RepT P w' g' r v
def Cn(P:Program)(X:En):Con:=⟨fun f css args r css'=>match css with
 | []=>css'=[]∧Fn P X f args r
 | _::_=>FnM P X f css args r css',X.gv,FnI P X⟩
def ConOk(X:En)(C:Con):Prop:=∀{w:World} {gn:Nat} {v:V},X.E w→C.gv gn v→X.Eb gn∧∃u,w.cell? ⟨gn,0,none⟩=some u∧v.one=true∧∀L:Lv,Rep w L v u
theorem conOk{P:Program}{X X0:En}(hX:X.Le X0):ConOk X (Cn P X0):=fun hE hg=>let ⟨h1,h2⟩:=X0.gl (hX.e _ hE) hg;⟨hX.b _ h1,h2⟩
def aggB(P:Program)(t:TypeId):Bool:=match P.underlying t with
 | some (.struct _)=>true
 | some (.array _ _)=>true
 | _=>false
def zv:V→Value
 | .int k n=>.int k n
 | .bool b=>.bool b
 | .str s=>.string s
 | .nils=>.slice none 0 0
 | .nili=>.nilIface
 | .raw v=>v
 | _=>undef
def zok:V→Bool
 | .int _ _=>true
 | .bool _=>true
 | .str _=>true
 | .nils=>true
 | .nili=>true
 | .raw v=>v.oneCell'
 | _=>false
def FlatOk(P:Program):Nat→List Field→List Bool→Prop
 | _,[],[]=>True
 | i,f::fs,k::ks=>f.name≠ "_" ∧f.offset=i∧P.underlying f.type=some (if k=true then .string else .bool)∧FlatOk P (i+1) fs ks
 | _,_,_=>False
def zval:V→Value
 | .agg l=>.agg (l.map zv).toArray
 | x=>zv x
def zvok:V→Bool
 | .agg l=>l.all zok
 | x=>zok x
structure TabOk(P:Program)(tb:Tab):Prop where
 mps:∀{t q},lk t tb.mps=some q→∃k e i,P.underlying t=some (.map k e)∧P.underlying k=some (match q.1 with | some d=>.int d | none=>.string)∧P.info? e=some i∧i.zero=some (zval q.2)∧zvok q.2=true
 eqs:∀{t ks},lk t tb.eqs=some ks→∃fs,P.underlying t=some (.struct fs)∧P.stoodInHeld t=false∧P.eqGuardType P.depth t=false∧FlatOk P 0 fs.toList ks
 fld:∀{t l},lk t tb.fld=some l→∃fs:Array Field,P.underlying t=some (.struct fs)∧fs.toList.map (fun f=>(f.offset,P.cellsOf f.type,aggB P f.type))=l∧fs.toList.all (fun f=>(P.info? f.type).isSome&&(P.underlying f.type).isSome&&P.cellsOf f.type != 0)=true
 siz:∀{t q},lk t tb.siz=some q→(P.info? t).isSome=true∧P.cellsOf t=q.1∧(P.underlying t).isSome=true∧aggB P t=q.2∧(q.2=false→q.1=1)∧q.1≠0
 byt:∀{t q},lk t tb.siz=some q→∃i z,P.info? t=some i∧i.zero=some z∧z.cells.size=q.1∧i.bytes≤100000
 elt:∀{t e},lk t tb.elt=some e→P.underlying t=some (.slice e)
 zer:∀{t z},lk t tb.zer=some z→∃i v,P.info? t=some i∧i.zero=some v∧v.cells.toList=z.map zv∧z.all zok=true
 str:∀{t},(lk t tb.str).isSome=true→P.underlying t=some .string
 boo:∀{t},(lk t tb.boo).isSome=true→P.underlying t=some .bool
 ints:∀{t k},lk t tb.ints=some k→P.underlying t=some (.int k)
 conT:∀{t},lk t tb.con=some true→∃ms,P.underlying t=some (.interface ms)
 conF:∀{t},lk t tb.con=some false→∃d,P.underlying t=some d∧∀ms,d≠ .interface ms
end Go.Proofs.YtknelogmocedeaaGreatDoor
