/- The walk without memory is right: calls, and each operation as the machine carries it out. Whatever program. -/
import Derived.Test.YtknelogmocedeaaGreatDoorR06
import Derived.RangeFuncCalls
import Derived.Lib.ConvBytes
namespace Go.Proofs.YtknelogmocedeaaGreatDoor
open Go.RowKit
set_option linter.unusedVariables false
variable {P : Program} {X : En} {base N : Nat} {S : Nat → Prop} {tb : Tab}
theorem Hd.below {st:St}{a:Act}{w w':World}{g:Gh}{L':Lv}(hd:Hd P X base S st a w g)(hb:Below w.heap.size w w')(hs:Same g.L w L' w')(hn:∀{b o},L' b o→g.L b o∨w.heap.size≤b)(hlt:∀{b o},L' b o→∃u,w'.cell? ⟨b,o,none⟩=some u):
  Hd P X base S st a w' {g with L:=L'}∧Stp X base S N w g w' {g with L:=L'}∧Tame w g st.lv w' {g with L:=L'} st.lv:=by
 have hle:=hd.le
 have rep:∀{t:T} {v:Value},RepT P w g t v→RepT P w' {g with L:=L'} t v:=fun r=>r.same (g':={g with L:=L'}) hs rfl rfl
 refine⟨⟨hd.sz,fun t=>rep (hd.env t),⟨?_,?_,?_,hd.mm.bxE,hd.mm.loc,fun hi=>Nat.lt_of_lt_of_le (hd.mm.lt hi) hb.size,hd.mm.inj,?_,hd.mm.ownInj,hlt,fun {i} hi=>(by rw[hb.block _ (hd.mm.lt hi)];exact hd.mm.bc hi),hd.mm.ownE⟩,?_,Nat.le_trans hle hb.size⟩,⟨Upd.of_below hb,hs,fun h=>(hn h).imp id (fun h=>⟨Nat.le_trans hle h,fun hE=>by have:=X.lt hd.E hE;omega⟩),fun _=>rfl,fun hk _=>(hb.block _ (Array.getElem?_eq_some_iff.1 hk).1).trans hk⟩,fun b o u hsf hc=>⟨cell_below hc hb,Nat.lt_of_lt_of_le hsf.1 hb.size,hsf.2.imp (fun h=>(hs.c b o u h hc).1) id⟩⟩
 ·intro i cs hi j c hj
  obtain⟨u,hu,hr,h1⟩:=hd.mm.box hi hj
  exact⟨u,cell_below hu hb,rep hr,h1⟩
 ·intro i hi j
  rw[frozen_old (hb.block _ (hd.mm.lt hi))]
  exact hd.mm.frz hi j
 ·intro i hi o h
  rcases hn h with h | h
  ·exact hd.mm.bxL hi o h
  ·have:=hd.mm.lt hi;dsimp only at*;omega
 ·intro k e hk
  obtain⟨n,vals,o1,o2⟩:=hd.mm.own hk
  refine⟨n,vals,o1.kept (grown_of_below hb none) (by cases h:(g.κ k).ownBlock <;> simp),fun b hbb=>⟨fun o h=>?_,(o2 b hbb).2⟩⟩
  rcases hn h with h | h
  ·exact(o2 b hbb).1 o h
  ·have:=(o1.lt b hbb).2;omega
 ·exact X.upd (S:=fun _=>False) (Upd.of_below hb) (fun _ h=>h.elim) hd.E
theorem bytesWorld_below(w:World)(e:TypeId)(s:ByteArray):Below w.heap.size w (Lib.bytesWorld w e s):=
 ⟨rfl,rfl,rfl,by rw[Lib.bytesWorld_size];omega,fun k hk=>Lib.bytesWorld_at_old w e s k hk⟩
theorem ran_convertB(hT:TabOk P tb){o:Oper}{s t:TypeId}{x:Operand}(hqs:bysB t=true)(ho:o.op=.convert s t x){a:Act}{w:World}{g:Gh}{st:St}{C:Con}{K:T→St→Prop}(hd:Hd P X base S st a w g)(hs:semOp tb C o st K):Ran P X base S N st o a w g K:=by
 have hx:=hd.ev x
 cases hi:lk t tb.ints with
 | some k=>
  unfold semOp at hs
  rw[ho] at hs
  dsimp only at hs
  rw[hi] at hs
  dsimp only at hs
  split at hs <;> try exact hs.elim
  rename_i k' hk'
  split at hs <;> try exact hs.elim
  rename_i ks y hy
  obtain⟨n,rfl,hK⟩:=hs
  rw[hy] at hx
  have hx':a.eval x=.int ks y:=hx
  refine(ranq hd (t:=.v (.int k (k.wrap y))) (v:=.int k (k.wrap y)) ?_ rfl hK).ran hd
  intro W
  unfold execOp
  simp only[ho,hx',convert,Sem.run_bind,run_underlying (hT.ints hi),run_underlying (hT.ints hk'),Result.andThen_ok]
  rfl
 | none=>
  unfold semOp at hs
  rw[ho] at hs
  dsimp only at hs
  rw[hi] at hs
  dsimp only at hs
  rw[hqs] at hs
  dsimp only at hs
  split at hs <;> try exact hs.elim
  rename_i e u z he hsu hz
  split at hs <;> try exact hs.elim
  rename_i h8
  have hu1:=hT.elt he
  have hu2:=hT.ints h8
  have hu3:=hT.str (t:=s) (by rw[hsu];rfl)
  have hx':a.eval x=.string z:=toV_rep hx hz
  have hb:=bytesWorld_below w e z
  obtain⟨d1,d2,d3⟩:=hd.below (N:=N) (L':=fun b o=>g.L b o∨(b=w.heap.size∧o < z.size)) hb ⟨fun b o u h1 h2=>⟨.inl h1,cell_below h2 hb⟩,.of_below hb⟩ (fun h=>h.imp id fun h=>by rw[h.1];exact Nat.le_refl _) (fun {b o} h=>by
   rcases h with h | ⟨rfl,h⟩
   ·obtain⟨u,hu⟩:=hd.mm.Lc h
    exact⟨u,cell_below hu hb⟩
   ·exact⟨_,Lib.bytesWorld_cell w e z o h⟩)
  refine⟨.value (.slice (some ⟨w.heap.size,0,none⟩) z.size (grownCap w z.size 0 e)),_,_,.v (.sl (z.data.toList.map byteV)),_,_,?_,.inl rfl,hs,?_,d1,d2,d3.b⟩
  ·unfold execOp
   simp only[ho,hx',Sem.run_bind,Lib.run_convert_string_bytes w s t e z hu3 hu1 hu2,Result.andThen_ok]
   rfl
  ·have hzl:z.data.toList.length=z.size:=by simp
   refine⟨_,_,by rw[List.length_map,hzl],?_,fun _=>⟨w.heap.size,0,1,rfl,RepE.of_get _ _ fun i c hc=>?_⟩⟩
   ·rw[List.length_map,hzl]
    exact grownCap_ge w z.size 0 e
   ·rw[List.getElem?_map] at hc
    obtain⟨b,hbi,rfl⟩:=Option.map_eq_some_iff.1 hc
    obtain⟨hil,hb'⟩:=List.getElem?_eq_some_iff.1 hbi
    have hiz:i < z.size:=by omega
    refine⟨rfl,⟨_,.inr ⟨rfl,by omega⟩,?_,rfl,rfl⟩,trivial⟩
    have:=Lib.bytesWorld_cell w e z i hiz
    rw[show 0+i*1=i by omega,this,List.getD_eq_getElem?_getD,hbi]
    rfl
def Open(F:Fence):Prop:=F=Fence.wide∨∃l,F=Fence.wide.inRound l
theorem Open.fn {F:Fence}(h:Open F)(f:FuncId):F.fn f:=by
 rcases h with rfl | ⟨l,rfl⟩ <;> trivial
theorem Open.depth {F:Fence}(h:Open F):F.depth=none:=by
 rcases h with rfl | ⟨l,rfl⟩ <;> rfl
theorem Open.calls {F:Fence}(h:Open F){n:Nat}{f:FuncId}{args:Array Value}{w:World}{R:Ending→World→Prop}(k:Calls P f args w R):CallsIn F n P f args w R:=by
 rcases h with rfl | ⟨l,rfl⟩
 ·exact callsIn_wide.2 k
 ·exact CallsIn.inRound l (callsIn_wide.2 k)
def Aft(P:Program)(X:En)(base:Nat)(S:Nat→Prop)(N:Nat)(lv:List (Nat×Option Nat))(B:Nat→Prop)(d:Option Nat)(a:Act)(w:World)(g:Gh)(K:St→Prop):Act→World→Prop:=fun a' w'=>
 ∃st' g',K st'∧Hd P X base S st' a' w' g'∧Stp X base S N w g w' g'∧a'.defers=a.defers∧TameB B w g lv w' g' st'.lv∧a'.tmps.size=a.tmps.size∧∀t,d≠some t→a'.tmps.getD t undef=a.tmps.getD t undef
theorem put_size(a:Act)(d:Option Nat)(v:Value):(a.put d v).tmps.size=a.tmps.size:=by cases d <;> simp[Act.put]
theorem put_keep(a:Act)(d:Option Nat)(v:Value):∀t,d≠some t→(a.put d v).tmps.getD t undef=a.tmps.getD t undef:=fun t h=>by
 cases d with
 | none=>rfl
 | some d=>
  have hne:d≠t:=fun e=>h (by rw[e])
  simp[Act.put,Array.getElem?_setIfInBounds_ne hne]
theorem put_defers(a:Act)(d:Option Nat)(v:Value):(a.put d v).defers=a.defers:=by cases d <;> rfl
theorem St.put_lv (st:St)(d:Option Nat)(t:T):(st.put d t).lv=st.lv:=by
 cases d with
 | none=>rfl
 | some d=>by_cases h:d < st.n;rw[St.put_lt h];rw[St.put_ge h]
theorem Ran.wpIn {F:Fence}(hF:Open F){n:Nat}{o:Oper}(hdf:∀c,o.op≠ .defer c){a:Act}{w:World}{g:Gh}{K:St→Prop}{st:St}(Q:Exit→Act→World→Prop)(h:Ran P X base S N st o a w g fun t st'=>K (st'.put o.dst t)):o.wpIn F n P a w (Aft P X base S N st.lv (bad o a) o.dst a w g K) Q:=by
 obtain⟨nx,v,w',t,st',g',h1,h2,h3,h4,h5,h6,h7⟩:=h
 have h8:TameB (bad o a) w g st.lv w' g' (st'.put o.dst t).lv:=by rw[St.put_lv];exact h7
 refine⟨fun f _=>hF.fn f,?_⟩
 rw[Oper.semAt_plain F _ _ hdf,h1]
 rcases h2 with rfl | ⟨rfl,rfl⟩
 ·exact⟨_,g',h3,h5.put o.dst h4,h6,put_defers _ _ _,h8,put_size _ _ _,put_keep _ _ _⟩
 ·exact⟨_,g',h3,h5.put o.dst h4,h6,put_defers _ _ _,h8,put_size _ _ _,put_keep _ _ _⟩
def Gh.of (g:Gh)(bx:List Nat):Gh:={L:=g.L,ρ:=fun j=>match bx[j]? with | some i=>g.ρ i | none=>(0,0),κ:=fun _=>undef}
theorem Gh.of_at (g:Gh){bx:List Nat}{j i:Nat}(h:bx[j]? =some i):(g.of bx).ρ j=g.ρ i:=by simp only[Gh.of,h]
mutual
theorem ArgLe.rep {w:World}{g:Gh}{bx:List Nat}:∀(t t':T) (v:Value),ArgLe bx t t'→RepT P w g t v→RepT P w (g.of bx) t' v
 | .ptr i o,.ptr j q,v,⟨h1,h2⟩,r=>by
  subst h2
  rw[RepT] at r ⊢
  rw[Gh.of_at g h1];exact r
 | .fn f cs,.fn f' ds,v,⟨h1,h2⟩,⟨us,e,r⟩=>by subst h1;exact⟨us,e,ArgLes.rep cs ds us.toList h2 r⟩
 | .un,t',v,h,r=>by rw[ArgLe] at h;exact RepT.pure (g:=g) (g':=g.of bx) h.2 (Same.refl _ _) (LeT.rep _ _ _ h.1 r);all_goals (intros;simp_all)
 | .v x,t',v,h,r=>by rw[ArgLe] at h;exact RepT.pure (g:=g) (g':=g.of bx) h.2 (Same.refl _ _) (LeT.rep _ _ _ h.1 r);all_goals (intros;simp_all)
 | .own k e xs,t',v,h,r=>by rw[ArgLe] at h;exact RepT.pure (g:=g) (g':=g.of bx) h.2 (Same.refl _ _) (LeT.rep _ _ _ h.1 r);all_goals (intros;simp_all)
 | .ro cs,t',v,h,r=>by rw[ArgLe] at h;exact RepT.pure (g:=g) (g':=g.of bx) h.2 (Same.refl _ _) (LeT.rep _ _ _ h.1 r);all_goals (intros;simp_all)
 | .tup l,t',v,h,r=>by rw[ArgLe] at h;exact RepT.pure (g:=g) (g':=g.of bx) h.2 (Same.refl _ _) (LeT.rep _ _ _ h.1 r);all_goals (intros;simp_all)
 | .sub k m,t',v,h,r=>by rw[ArgLe] at h;exact RepT.pure (g:=g) (g':=g.of bx) h.2 (Same.refl _ _) (LeT.rep _ _ _ h.1 r);all_goals (intros;simp_all)
 | .ptr i o,t',v,h,r=>by
  cases t' with
  | ptr j q=>
   obtain⟨h1,h2⟩:=h
   subst h2
   rw[RepT] at r ⊢
   rw[Gh.of_at g h1];exact r
  | _=>exact RepT.pure (g:=g) (g':=g.of bx) h.2 (Same.refl _ _) (LeT.rep _ _ _ h.1 r)
 | .fn f cs,t',v,h,r=>by
  cases t' with
  | fn f' ds=>
   obtain⟨h1,h2⟩:=h
   obtain⟨us,e,r⟩:=r
   subst h1;exact⟨us,e,ArgLes.rep cs ds us.toList h2 r⟩
  | _=>exact RepT.pure (g:=g) (g':=g.of bx) h.2 (Same.refl _ _) (LeT.rep _ _ _ h.1 r)
theorem ArgLes.rep {w:World}{g:Gh}{bx:List Nat}:∀(l m:List T) (vs:List Value),ArgLes bx l m→RepTs P w g l vs→RepTs P w (g.of bx) m vs
 | [],[],_,_,r=>r
 | x::xs,y::ys,_,⟨h1,h2⟩,⟨u,us,e,r,rs⟩=>⟨u,us,e,ArgLe.rep x y u h1 r,ArgLes.rep xs ys us h2 rs⟩
 | [],_::_,_,h,_=>h.elim
 | _::_,[],_,h,_=>h.elim
end
mutual
theorem renT_rep{w:World}{g:Gh}{bx:List Nat}{L:Lv}:∀(t:T) (v:Value),RepT P w {g.of bx with L:=L} t v→RepT P w {g with L:=L} (renT bx t) v
 | .un,_,_=>trivial
 | .v x,v,r=>r
 | .own _ _ _,_,_=>trivial
 | .ptr j q,v,r=>by
  rw[renT]
  split
  ·rename_i i hi
   rw[RepT] at r ⊢
   rw[show({g.of bx with L:=L}:Gh).ρ j=g.ρ i from Gh.of_at g hi] at r
   exact r
  ·trivial
 | .ro cs,v,r=>r
 | .fn f caps,v,⟨cs,e,r⟩=>⟨cs,e,renTs_rep caps cs.toList r⟩
 | .tup l,v,⟨cs,e,r⟩=>⟨cs,e,renTs_rep l cs.toList r⟩
 | .sub _ _,_,_=>trivial
theorem renTs_rep{w:World}{g:Gh}{bx:List Nat}{L:Lv}:∀(l:List T) (vs:List Value),RepTs P w {g.of bx with L:=L} l vs→RepTs P w {g with L:=L} (renTs bx l) vs
 | [],_,r=>r
 | t::r,_,⟨u,us,e,h1,h2⟩=>⟨u,us,e,renT_rep t u h1,renTs_rep r us h2⟩
end
theorem renTs_get{bx:List Nat}:∀{l:List T} {k:Nat},(renTs bx l)[k]? =(l[k]?).map (renT bx)
 | [],k=>by simp[renTs]
 | t::r,0=>rfl
 | t::r,k+1=>by rw[renTs,List.getElem?_cons_succ,List.getElem?_cons_succ];exact renTs_get
theorem ArgLes.length {bx:List Nat}:∀{l m:List T},ArgLes bx l m→l.length=m.length
 | [],[],_=>rfl
 | _::_,_::_,h=>by rw[List.length_cons,List.length_cons,h.2.length]
 | [],_::_,h=>h.elim
 | _::_,[],h=>h.elim
theorem ArgLes.get {bx:List Nat}:∀{l m:List T} {k:Nat} {c:T},ArgLes bx l m→m[k]? =some c→∃c0,l[k]? =some c0∧ArgLe bx c0 c
 | [],[],_,_,_,h=>by simp at h
 | x::xs,y::ys,0,c,h,hk=>by simp at hk;subst hk;exact⟨x,rfl,h.1⟩
 | x::xs,y::ys,k+1,c,h,hk=>by
  obtain⟨c0,h1,h2⟩:=h.2.get (k:=k) (by simpa using hk)
  exact⟨c0,by simpa using h1,h2⟩
 | [],_::_,_,_,h,_=>h.elim
 | _::_,[],_,_,h,_=>h.elim
theorem nodupB_ne{bx:List Nat}(h:nodupB bx=true){j k i:Nat}(hj:bx[j]? =some i)(hk:bx[k]? =some i):j=k:=by
 induction bx generalizing j k with
 | nil=>simp at hj
 | cons x r ih=>
  rw[nodupB,Bool.and_eq_true,Bool.not_eq_true'] at h
  have hx:∀{n:Nat},r[n]? =some x→False:=fun {n} hn=>by
   have:=List.any_eq_false.1 h.1 x (List.mem_of_getElem? hn)
   exact this (Nat.beq_refl x)
  cases j with
  | zero=>
   cases k with
   | zero=>rfl
   | succ k=>simp at hj hk;subst hj;exact(hx hk).elim
  | succ j=>
   cases k with
   | zero=>simp at hj hk;subst hk;exact(hx hj).elim
   | succ k=>simp at hj hk;rw[ih h.2 hj hk]
theorem bxOk_get{st:St}{bx0:List Nat}:∀{bx:List Nat} {css:List (List T)},bxOk st bx0 bx css→bx.length=css.length∧∀{j:Nat} {cs:List T},css[j]? =some cs→∃i c,bx[j]? =some i∧lk i st.bs=some c∧ArgLes bx0 c cs
 | [],[],_=>⟨rfl,fun h=>by simp at h⟩
 | i::bx,cs::css,⟨h1,h2⟩=>by
  obtain⟨k1,k2⟩:=bxOk_get h2
  refine⟨by simp[k1],fun {j cs'} h=>?_⟩
  cases j with
  | zero=>
   simp at h;subst h
   split at h1
   ·rename_i c hc;exact⟨i,c,rfl,hc,h1⟩
   ·exact h1.elim
  | succ j=>
   obtain⟨i',c,e1,e2,e3⟩:=k2 (j:=j) (by simpa using h)
   exact⟨i',c,by simpa using e1,e2,e3⟩
 | [],_::_,h=>h.elim
 | _::_,[],h=>h.elim
theorem LeTs.length:∀{l m:List T},LeTs l m→l.length=m.length
 | [],[],_=>rfl
 | _::_,_::_,h=>by rw[List.length_cons,List.length_cons,h.2.length]
 | [],_::_,h=>h.elim
 | _::_,[],h=>h.elim
theorem LeTs.get:∀{l m:List T} {k:Nat} {c:T},LeTs l m→m[k]? =some c→∃c0,l[k]? =some c0∧LeT c0 c
 | [],[],_,_,_,h=>by simp at h
 | x::xs,y::ys,0,c,h,hk=>by simp at hk;subst hk;exact⟨x,rfl,h.1⟩
 | x::xs,y::ys,k+1,c,h,hk=>by
  obtain⟨c0,h1,h2⟩:=h.2.get (k:=k) (by simpa using hk)
  exact⟨c0,by simpa using h1,h2⟩
 | [],_::_,_,_,h,_=>h.elim
 | _::_,[],_,_,h,_=>h.elim
def St.bsets:St→List Nat→List (List T)→St
 | st,i::bx,cs::css=>(st.bset i cs).bsets bx css
 | st,_,_=>st
theorem bsetsK_eq{bx0:List Nat}:∀{st:St} {bx:List Nat} {css:List (List T)} {K:St→Prop},bsetsK bx0 st bx css K→K (st.bsets bx (css.map (renTs bx0)))∧bx.length=css.length
 | st,[],[],K,h=>⟨h,rfl⟩
 | st,i::bx,cs::css,K,h=>by
  rw[bsetsK,frcTs_eq] at h
  obtain⟨h1,h2⟩:=bsetsK_eq h
  exact⟨h1,by simp[h2]⟩
 | st,[],_::_,K,h=>h.elim
 | st,_::_,[],K,h=>h.elim
theorem bsets_keep:∀(st:St) (bx:List Nat) (css:List (List T)),(st.bsets bx css).n=st.n∧(st.bsets bx css).env=st.env∧(st.bsets bx css).lv=st.lv
 | st,[],_=>⟨rfl,rfl,rfl⟩
 | st,_::_,[]=>⟨rfl,rfl,rfl⟩
 | st,i::bx,cs::css=>bsets_keep (st.bset i cs) bx css
theorem bsets_lk:∀(st:St) (bx:List Nat) (css:List (List T)),nodupB bx=true→bx.length=css.length→∀i:Nat,(∃(j:Nat) (cs:List T),bx[j]? =some i∧css[j]? =some cs∧lk i (st.bsets bx css).bs=some cs)∨((∀j:Nat,bx[j]? ≠some i)∧lk i (st.bsets bx css).bs=lk i st.bs)
 | st,[],[],_,_,i=>.inr ⟨fun j=>by simp,rfl⟩
 | st,k::bx,cs::css,hn,hl,i=>by
  have hn2:=hn
  rw[nodupB,Bool.and_eq_true] at hn2
  rcases bsets_lk (st.bset k cs) bx css hn2.2 (by simpa using hl) i with⟨j,c,h1,h2,h3⟩ | ⟨h1,h2⟩
  ·exact .inl ⟨j+1,c,by simpa using h1,by simpa using h2,h3⟩
  ·by_cases hik:i=k
   ·subst hik
    refine .inl ⟨0,cs,rfl,rfl,?_⟩
    show lk i ((st.bset i cs).bsets bx css).bs=some cs
    rw[h2];exact lk_cons_eq _ _ _
   ·refine .inr ⟨fun j hj=>?_,?_⟩
    ·cases j with
     | zero=>simp at hj;exact hik hj.symm
     | succ j=>exact h1 j (by simpa using hj)
    ·show lk i ((st.bset k cs).bsets bx css).bs=_
     rw[h2];exact lk_cons_ne _ _ hik
 | st,[],_::_,_,hl,_=>by simp at hl
 | st,_::_,[],_,hl,_=>by simp at hl
theorem Hd.passed {X0:En}(hX:X.Le X0){st:St}{a:Act}{w:World}{g:Gh}(hd:Hd P X base S st a w g){bx:List Nat}{css:List (List T)}(hn:nodupB bx=true)(hb:bxOk st bx bx css):MemB P X0 w (g.of bx) css:=by
 obtain⟨hl,hget⟩:=bxOk_get hb
 have at_:∀{j:Nat},j < css.length→∃i c,bx[j]? =some i∧lk i st.bs=some c∧ArgLes bx c css[j]! ∧(g.of bx).ρ j=g.ρ i∧isK st.bs i:=fun {j} hj=>by
  obtain⟨i,c,h1,h2,h3⟩:=hget (List.getElem?_eq_getElem hj)
  exact⟨i,c,h1,h2,by rw[getElem!_pos css j hj];exact h3,Gh.of_at g h1,by unfold isK;rw[h2];rfl⟩
 refine⟨fun {j cs} hj {k c} hk=>?_,fun {j} hj k=>?_,fun {j} hj k=>?_,fun {j} hj=>?_,fun {j} hj=>?_,fun {i j} hi hj hij=>?_,fun {j} hj=>?_⟩
 ·obtain⟨i,c1,h1,h2,h3⟩:=hget hj
  obtain⟨c0,h4,h5⟩:=h3.get hk
  obtain⟨u,hu,hr,ho⟩:=hd.mm.box h2 h4
  rw[Gh.of_at g h1]
  exact⟨u,hu,ArgLe.rep _ _ _ h5 hr,ho⟩
 ·obtain⟨i,c,h1,h2,h3,h4,h5⟩:=at_ hj
  rw[h4];exact hd.mm.frz h5 k
 ·obtain⟨i,c,h1,h2,h3,h4,h5⟩:=at_ hj
  rw[h4];exact hd.mm.bxL h5 k
 ·obtain⟨i,c,h1,h2,h3,h4,h5⟩:=at_ hj
  rw[h4];exact fun h=>hd.mm.bxE h5 (hX.b _ h)
 ·obtain⟨i,c,h1,h2,h3,h4,h5⟩:=at_ hj
  rw[h4];exact hd.mm.lt h5
 ·obtain⟨i1,c,h1,h2,h3,h4,h5⟩:=at_ hi
  obtain⟨j1,c',k1,k2,k3,k4,k5⟩:=at_ hj
  rw[h4,k4]
  exact hd.mm.inj h5 k5 fun e=>hij (nodupB_ne hn h1 (by rw[k1,e]))
 ·obtain⟨i,c,h1,h2,h3,h4,h5⟩:=at_ hj
  rw[h4];exact hd.mm.bc h5
theorem ownsRow_up{w w':World}{base:Nat}{e:TypeId}{size n:Nat}{v:Value}{xs:List Value}(h:w.ownsRow base e size v n xs){S:Nat→Prop}(hu:Upd S w w')(hs:∀k,v.ownBlock=some k→¬S k):w'.ownsRow base e size v n xs:=by
 obtain⟨h1,h2⟩:=h
 refine⟨h1,?_⟩
 rcases h2 with h2 | ⟨g,cap,cur,rfl,hg,hh,r⟩
 ·exact .inl h2
 ·exact .inr ⟨g,cap,cur,rfl,hg,hu.blk hh (hs g rfl),r⟩
theorem Hd.back {X0:En}{st:St}{a:Act}{w w':World}{g:Gh}{L':Lv}(hd:Hd P X base S st a w g){bx:List Nat}{css css':List (List T)}(hn:nodupB bx=true)(hb:bxOk st bx bx css)(hlen:css'.map List.length=css.map List.length)
  (hu:Upd (fun b=>∃j,j < css.length∧b=((g.of bx).ρ j).1) w w') (hs:Same g.L w L' w') (hnw:∀{b o},L' b o→g.L b o∨w.heap.size≤b) (hlt:∀{b o},L' b o→∃u,w'.cell? ⟨b,o,none⟩=some u) (hm:MemB P X0 w' {g.of bx with L:=L'} css') (hob:∀{k:Nat} {o:Obj},w.heap[k]? =some o→o.isCells=false→w'.heap[k]? =some o):
  Hd P X base S (st.bsets bx (css'.map (renTs bx))) a w' {g with L:=L'}∧Stp X base S N w g w' {g with L:=L'}:=by
 obtain⟨hl,hget⟩:=bxOk_get hb
 have hl':css'.length=css.length:=by have:=congrArg List.length hlen;simpa using this
 obtain⟨kn,ke,kl⟩:=bsets_keep st bx (css'.map (renTs bx))
 have hlm:bx.length=(css'.map (renTs bx)).length:=by rw[List.length_map,hl,hl']
 have gm:∀{j:Nat} {cs:List T},(css'.map (renTs bx))[j]? =some cs→∃cs0,css'[j]? =some cs0∧cs=renTs bx cs0:=fun {j cs} h=>by
  rw[List.getElem?_map] at h
  obtain⟨cs0,h1,h2⟩:=Option.map_eq_some_iff.1 h
  exact⟨cs0,h1,h2.symm⟩
 have hle:=hd.le
 have rep:∀{t:T} {v:Value},RepT P w g t v→RepT P w' {g with L:=L'} t v:=fun r=>r.same (g':={g with L:=L'}) hs rfl rfl
 have hj_lt:∀{j i:Nat},bx[j]? =some i→j < css.length:=fun {j i} h=>by rw[←hl];exact(List.getElem?_eq_some_iff.1 h).1
 have key:∀{j i:Nat},bx[j]? =some i→isK st.bs i:=fun {j i} h=>by
  obtain⟨i',c,h1,h2,_⟩:=hget (List.getElem?_eq_getElem (hj_lt h))
  rw[h] at h1;cases h1
  unfold isK;rw[h2];rfl
 have hK:∀i,isK (st.bsets bx (css'.map (renTs bx))).bs i→isK st.bs i:=fun i hi=>by
  rcases bsets_lk st bx (css'.map (renTs bx)) hn hlm i with⟨j,cs,h1,_,_⟩ | ⟨_,h2⟩
  ·exact key h1
  ·unfold isK at hi ⊢;rw[h2] at hi;exact hi
 have oth:∀i,isK st.bs i→(∀j,bx[j]? ≠some i)→w'.heap[(g.ρ i).1]? =w.heap[(g.ρ i).1]? :=fun i hi hne=>by
  refine hu.block _ (hd.mm.lt hi) ?_
  rintro⟨j,hj,e⟩
  obtain⟨i',c,h1,h2,_⟩:=hget (List.getElem?_eq_getElem hj)
  rw[Gh.of_at g h1] at e
  exact hd.mm.inj hi (key h1) (fun e'=>hne j (by rw[h1,e'])) e
 have blkE:∀b,(∃j,j < css.length∧b=((g.of bx).ρ j).1)→¬X.Eb b:=by
  rintro b ⟨j,hj,rfl⟩
  obtain⟨i',c,h1,h2,_⟩:=hget (List.getElem?_eq_getElem hj)
  rw[Gh.of_at g h1];exact hd.mm.bxE (key h1)
 refine⟨⟨by rw[kn];exact hd.sz,fun t=>by rw[ke];exact rep (hd.env t),⟨?_,?_,?_,fun hi=>hd.mm.bxE (hK _ hi),fun hi=>hd.mm.loc (hK _ hi),fun hi=>Nat.lt_of_lt_of_le (hd.mm.lt (hK _ hi)) hu.size,fun hi hj=>hd.mm.inj (hK _ hi) (hK _ hj),?_,by rw[kl];exact hd.mm.ownInj,hlt,?_,by rw[kl];exact hd.mm.ownE⟩,X.upd hu blkE hd.E,Nat.le_trans hle hu.size⟩,⟨hu.mono ?_,hs,fun h=>(hnw h).imp id (fun h=>⟨Nat.le_trans hle h,fun hE=>by have:=X.lt hd.E hE;omega⟩),fun _=>rfl,hob⟩⟩
 ·intro i cs hi k c hk
  rcases bsets_lk st bx (css'.map (renTs bx)) hn hlm i with⟨j,cs',h1,h2,h3⟩ | ⟨h1,h2⟩
  ·rw[h3] at hi;cases hi
   obtain⟨cs0,k1,rfl⟩:=gm h2
   rw[renTs_get] at hk
   obtain⟨c0,k2,rfl⟩:=Option.map_eq_some_iff.1 hk
   obtain⟨u,hu1,hr,ho⟩:=hm.box k1 k2
   rw[show({g.of bx with L:=L'}:Gh).ρ j=g.ρ i from Gh.of_at g h1] at hu1
   exact⟨u,hu1,renT_rep c0 u hr,ho⟩
  ·rw[h2] at hi
   obtain⟨u,hu1,hr,ho⟩:=hd.mm.box hi hk
   exact⟨u,by rw[cell_old (oth i (by unfold isK;rw[hi];rfl) h1)];exact hu1,rep hr,ho⟩
 ·intro i hi k
  rcases bsets_lk st bx (css'.map (renTs bx)) hn hlm i with⟨j,cs',h1,h2,h3⟩ | ⟨h1,h2⟩
  ·have:=hm.frz (j:=j) (by rw[hl'];exact hj_lt h1) k
   rwa [show({g.of bx with L:=L'}:Gh).ρ j=g.ρ i from Gh.of_at g h1] at this
  ·rw[frozen_old (oth i (hK i hi) h1)];exact hd.mm.frz (hK i hi) k
 ·intro i hi k
  rcases bsets_lk st bx (css'.map (renTs bx)) hn hlm i with⟨j,cs',h1,h2,h3⟩ | ⟨h1,h2⟩
  ·have:=hm.bxL (j:=j) (by rw[hl'];exact hj_lt h1) k
   rwa [show({g.of bx with L:=L'}:Gh).ρ j=g.ρ i from Gh.of_at g h1] at this
  ·intro h
   rcases hnw h with h | h
   ·exact hd.mm.bxL (hK i hi) k h
   ·have:=hd.mm.lt (hK i hi);dsimp only at*;omega
 ·intro k e hk
  rw[kl] at hk
  obtain⟨n,vals,o1,o2⟩:=hd.mm.own hk
  refine⟨n,vals,ownsRow_up o1 hu ?_,fun b hbb=>⟨fun o h=>?_,fun i hi=>(o2 b hbb).2 i (hK i hi)⟩⟩
  ·rintro b hbb ⟨j,hj,rfl⟩
   obtain⟨i',c,h1,h2,_⟩:=hget (List.getElem?_eq_getElem hj)
   rw[Gh.of_at g h1] at hbb
   exact(o2 _ hbb).2 i' (key h1) rfl
  ·rcases hnw h with h | h
   ·exact(o2 b hbb).1 o h
   ·have:=(o1.lt b hbb).2;omega
 ·intro i hi
  rcases bsets_lk st bx (css'.map (renTs bx)) hn hlm i with⟨j,cs',h1,h2,h3⟩ | ⟨h1,h2⟩
  ·have:=hm.bc (j:=j) (by rw[hl'];exact hj_lt h1)
   rwa [show({g.of bx with L:=L'}:Gh).ρ j=g.ρ i from Gh.of_at g h1] at this
  ·rw[oth i (hK i hi) h1];exact hd.mm.bc (hK i hi)
 ·rintro b ⟨j,hj,rfl⟩
  obtain⟨i',c,h1,h2,_⟩:=hget (List.getElem?_eq_getElem hj)
  rw[Gh.of_at g h1];exact hd.mm.loc (key h1)
theorem callM_wpIn{X0:En}(hX:X.Le X0){F:Fence}(hF:Open F){n:Nat}{o:Oper}{c:Call}(ho:o.op=.call c){gv:Operand}(hc:c.callee=.value gv){a:Act}{w:World}{g:Gh}{st:St}{K:St→Prop}{f:FuncId}{caps:List T}(hf:st.ev gv=.fn f caps)(hst:Op.isStore o.op=true)(Q:Exit→Act→World→Prop)(hd:Hd P X base S st a w g)
  (hs:∃(bx:List Nat) (cs0:List T) (css:List (List T)) (args:List T) (r:T) (css':List (List T)),Cn P X0 f (cs0::css) args r css'∧nodupB bx=true∧bxOk st bx bx (cs0::css)∧ArgLes bx (c.args.toList.map st.ev++caps) args∧r.pure=true∧bsetsK bx st bx css' fun st'=>K (st'.put o.dst r)):o.wpIn F n P a w (Aft P X base S N st.lv (bad o a) o.dst a w g K) Q:=by
 obtain⟨bx,cs0,css,args,r,css',⟨hen,hlen,hfn⟩,hn,hb,hle,hpr,hK⟩:=hs
 obtain⟨hK,hbl⟩:=bsetsK_eq hK
 have hev:=hd.ev gv
 rw[hf] at hev
 obtain⟨cs,he,hcaps⟩:=hev
 have hargs:=ArgLes.rep (P:=P) _ _ _ hle ((hd.evs c.args.toList).append hcaps)
 have hcall:=hfn w (g.of bx) _ (hX.e w hd.E) hd.mm.Lc (hd.passed hX hn hb) hargs
 refine⟨fun f _=>hF.fn f,?_⟩
 have hrun:(execOp a.eval o).run P w=.ok (.enter f (c.args.map a.eval++cs)) w:=by
  unfold execOp
  simp only[ho,resolve,hc,he,Deferred.ofValue,Sem.run_bind,Sem.run_pure,Result.andThen_ok,invoke]
  rw[hen]
  simp
 rw[Oper.semAt_plain F _ _ (by rw[ho];intro c h;cases h),hrun]
 refine⟨fun h=>(by rw[hF.depth] at h;cases h),?_⟩
 have e1:(c.args.toList.map a.eval++cs.toList).toArray=c.args.map a.eval++cs:=by
  apply Array.toList_inj.1
  simp
 rw[e1] at hcall
 refine CallsIn.mono (hF.calls hcall) fun e w' hpost=>?_
 obtain⟨v,L',rfl,hu,hsm,hnw,hlt,hm,hob,hr⟩:=hpost
 obtain⟨h1,h2⟩:=hd.back (N:=N) hn hb hlen hu hsm hnw hlt hm hob
 exact⟨_,_,hK,h1.put o.dst (RepT.pure (g:={g.of bx with L:=L'}) (g':={g with L:=L'}) (w':=w') hpr (Same.refl _ _) hr),h2,put_defers _ _ _,fun b ok u _ hb _=>absurd (by unfold bad;rw[ho];rw[ho] at hst;exact hst) hb,put_size _ _ _,put_keep _ _ _⟩
mutual
theorem noK_hasK:∀(t:T) (i:Nat),t.noK=true→t.hasK i=false
 | .un,_,_=>rfl
 | .v _,_,_=>rfl
 | .own _ _ _,_,h=>by cases h
 | .ptr _ _,_,_=>rfl
 | .ro _,_,_=>rfl
 | .fn _ l,i,h=>noKs_hasKs l i h
 | .tup l,i,h=>noKs_hasKs l i h
 | .sub _ _,_,h=>by cases h
theorem noKs_hasKs:∀(l:List T) (i:Nat),T.noKs l=true→T.hasKs i l=false
 | [],_,_=>rfl
 | t::r,i,h=>by
  rw[T.noKs,Bool.and_eq_true] at h
  rw[T.hasKs,noK_hasK t i h.1,noKs_hasKs r i h.2];rfl
end
theorem scrO_rep{w w':World}{g g':Gh}(hs:Same g.L w g'.L w')(hr:∀i,g'.ρ i=g.ρ i)(t:T)(v:Value)(h:RepT P w g t v):RepT P w' g' (scrO t) v:=by
 have key:RepT P w' g' (match t.noK with | true=>t | false=>.un) v:=by
  cases hk:t.noK
  ·trivial
  ·exact RepT.mono hs t v (fun i _=>hr i) (fun k hk'=>by rw[noK_hasK t k hk] at hk';cases hk') h
 cases t with
 | own k e xs=>exact Rep.mono hs (.sl xs) v h.1
 | _=>exact key
theorem scrO_noK(t:T):(scrO t).noK=true:=by
 have key:T.noK (match t.noK with | true=>t | false=>.un)=true:=by
  cases hk:t.noK
  ·rfl
  ·exact hk
 cases t with
 | own k e xs=>rfl
 | _=>exact key
theorem scrN_ok{w:World}{g:Gh}{t:T}{v:Value}(h:RepT P w g t v):∀nw:List Nat,RepT P w g (scrN nw t) v∧(scrN nw t).noK=true∧∀d∈nw,(scrN nw t).hasP d=false
 | []=>⟨scrO_rep (Same.refl _ _) (fun _=>rfl) t v h,scrO_noK t,fun _ h=>by cases h⟩
 | d::r=>by
  obtain⟨h1,h2,h3⟩:=scrN_ok h r
  unfold scrN scrP
  cases hk:(scrN r t).hasP d
  ·refine⟨h1,h2,fun e he=>?_⟩
   rcases List.mem_cons.1 he with rfl | he
   ·exact hk
   ·exact h3 e he
  ·exact⟨trivial,rfl,fun _ _=>rfl⟩
theorem scrN_rep{w w':World}{g g':Gh}{nw:List Nat}(hs:Same g.L w g'.L w')(hr:∀i,i∉nw→g'.ρ i=g.ρ i)(t:T)(v:Value)(h:RepT P w g t v):RepT P w' g' (scrN nw t) v:=by
 obtain⟨h1,h2,h3⟩:=scrN_ok h nw
 exact RepT.mono hs _ v (fun i hi=>hr i (fun hm=>by rw[h3 i hm] at hi;cases hi)) (fun k hk=>by rw[noK_hasK _ k h2] at hk;cases hk) h1
theorem nwOk_lt{n:Nat}:∀{l:List Nat} {i:Nat},nwOk n l=true→i∈l→i < n
 | d::r,i,h,hi=>by
  unfold nwOk at h
  rw[Bool.and_eq_true,Nat.blt_eq] at h
  rcases List.mem_cons.1 hi with rfl | hi
  ·exact h.1
  ·exact nwOk_lt h.2 hi
theorem scrN_un:∀nw:List Nat,scrN nw .un=.un
 | []=>rfl
 | d::r=>by unfold scrN;rw[scrN_un r];rfl
theorem callI_wpIn{X0:En}(hX:X.Le X0){F:Fence}(hF:Open F){n:Nat}{o:Oper}{c:Call}(ho:o.op=.call c){gv:Operand}(hc:c.callee=.value gv){a:Act}{w:World}{g:Gh}{st:St}{K:St→Prop}{f:FuncId}{caps:List T}(hf:st.ev gv=.fn f caps)(hst:Op.isStore o.op=true)(Q:Exit→Act→World→Prop)(hd:Hd P X base S st a w g)
  (hN:st.n=N) (hs:∃(nw:List Nat) (args:List T) (r:T) (bs':List (Nat×List T)) (lv':List (Nat×Option Nat)),(Cn P X0).inl f args st.bs st.lv r bs' lv' nw∧LeEs (c.args.toList.map st.ev++caps) args∧nwOk st.n nw=true∧frcAll (St.mk st.n (scrEnv (scrN nw) st.env) bs' lv') fun st'=>K (st'.put o.dst r)):o.wpIn F n P a w (Aft P X base S N st.lv (bad o a) o.dst a w g K) Q:=by
 obtain⟨nw,args,r,bs',lv',⟨hen,hfn⟩,hle,hnw,hK⟩:=hs
 rw[frcAll_eq] at hK
 have hev:=hd.ev gv
 rw[hf] at hev
 obtain⟨cs,he,hcaps⟩:=hev
 have hargs:=LeEs.rep (P:=P) hle ((hd.evs c.args.toList).append hcaps)
 have hcall:=hfn X hX base S w g _ hd.E hd.le hd.mm hargs
 refine⟨fun f _=>hF.fn f,?_⟩
 have hrun:(execOp a.eval o).run P w=.ok (.enter f (c.args.map a.eval++cs)) w:=by
  unfold execOp
  simp only[ho,resolve,hc,he,Deferred.ofValue,Sem.run_bind,Sem.run_pure,Result.andThen_ok,invoke]
  rw[hen]
  simp
 rw[Oper.semAt_plain F _ _ (by rw[ho];intro c h;cases h),hrun]
 refine⟨fun h=>(by rw[hF.depth] at h;cases h),?_⟩
 have e1:(c.args.toList.map a.eval++cs.toList).toArray=c.args.map a.eval++cs:=by
  apply Array.toList_inj.1
  simp
 rw[e1] at hcall
 refine CallsIn.mono (hF.calls hcall) fun e w' hpost=>?_
 obtain⟨v,g',rfl,hE',hstp,hrho,hmm,hr⟩:=hpost
 have h1:Hd P X base S (St.mk st.n (scrEnv (scrN nw) st.env) bs' lv') a w' g':=⟨hd.sz,fun t=>by
  show RepT P w' g' (tget (scrEnv (scrN nw) st.env) t) _
  rw[tget_scr (scrN_un nw)]
  exact scrN_rep hstp.same hrho _ _ (hd.env t),hmm,hE',Nat.le_trans hd.le hstp.upd.size⟩
 exact⟨_,_,hK,h1.put o.dst hr,⟨hstp.upd,hstp.same,hstp.newL,fun {i} hi=>hrho i (fun e=>by have:=nwOk_lt hnw e;omega),hstp.obj⟩,put_defers _ _ _,fun b ok u _ hb _=>absurd (by unfold bad;rw[ho];rw[ho] at hst;exact hst) hb,put_size _ _ _,put_keep _ _ _⟩
theorem call_wpIn{X0:En}(hX:X.Le X0){F:Fence}(hF:Open F){n:Nat}{o:Oper}{c:Call}(ho:o.op=.call c){gv:Operand}(hc:c.callee=.value gv){a:Act}{w:World}{g:Gh}{st:St}{K:St→Prop}(Q:Exit→Act→World→Prop)(hd:Hd P X base S st a w g)(hN:st.n=N)(hs:semOp tb (Cn P X0) o st fun t st'=>K (st'.put o.dst t)):o.wpIn F n P a w (Aft P X base S N st.lv (bad o a) o.dst a w g K) Q:=by
 unfold semOp at hs
 rw[ho] at hs
 dsimp only at hs
 rw[hc] at hs
 dsimp only at hs
 split at hs <;> try exact hs.elim
 rename_i f caps hf
 split at hs <;> try exact hs.elim
 split at hs
 rotate_left
 ·split at hs
  ·exact hs.elim
  ·rename_i hst
   rcases hs with hs | hs
   ·exact callM_wpIn hX hF ho hc hf (by rw[ho];exact hst) Q hd hs
   ·exact callI_wpIn hX hF ho hc hf (by rw[ho];exact hst) Q hd hN hs
 obtain⟨args,r,hcn,hle,hpa,hpr,hK⟩:=hs
 obtain⟨_,hen,hfn⟩:=hcn
 have hev:=hd.ev gv
 rw[hf] at hev
 obtain⟨cs,he,hcaps⟩:=hev
 have hargs:=LeTs.rep (P:=P) _ _ _ hle ((hd.evs c.args.toList).append hcaps)
 have hcall:=hfn w g.L _ (hX.e w hd.E) hd.mm.Lc (RepTs.pure (g:=g) (g':=⟨g.L,fun _=>(0,0),fun _=>undef⟩) (w':=w) hpa (Same.refl _ _) hargs)
 refine⟨fun f _=>hF.fn f,?_⟩
 have hrun:(execOp a.eval o).run P w=.ok (.enter f (c.args.map a.eval++cs)) w:=by
  unfold execOp
  simp only[ho,resolve,hc,he,Deferred.ofValue,Sem.run_bind,Sem.run_pure,Result.andThen_ok,invoke]
  rw[hen]
  simp
 rw[Oper.semAt_plain F _ _ (by rw[ho];intro c h;cases h),hrun]
 refine⟨fun h=>(by rw[hF.depth] at h;cases h),?_⟩
 have e1:(c.args.toList.map a.eval++cs.toList).toArray=c.args.map a.eval++cs:=by
  apply Array.toList_inj.1
  simp
 rw[e1] at hcall
 refine CallsIn.mono (hF.calls hcall) fun e w' hpost=>?_
 obtain⟨v,L',rfl,hb,hsm,hn,hlt,hr⟩:=hpost
 obtain⟨h1,h2,h3⟩:=hd.below (N:=N) hb hsm hn hlt
 exact⟨_,_,hK,h1.put o.dst (RepT.pure (g:=⟨L',fun _=>(0,0),fun _=>undef⟩) (g':={g with L:=L'}) (w:=w') hpr (Same.refl _ _) hr),h2,put_defers _ _ _,(by rw[St.put_lv];exact h3.b),put_size _ _ _,put_keep _ _ _⟩
theorem sem_wpIn{X0:En}(hX:X.Le X0){F:Fence}(hF:Open F)(hT:TabOk P tb){n:Nat}{o:Oper}{a:Act}{w:World}{g:Gh}{st:St}{K:St→Prop}(Q:Exit→Act→World→Prop)(hN:st.n=N)(hd:Hd P X base S st a w g)(hs:semOp tb (Cn P X0) o st fun t st'=>K (st'.put o.dst t)):o.wpIn F n P a w (Aft P X base S N st.lv (bad o a) o.dst a w g K) Q:=by
 obtain⟨op,ho⟩:∃op,o.op=op:=⟨_,rfl⟩
 cases op with
 | move x=>exact((ran_move (.inl ho) hd hs).ran hd).wpIn hF (by rw[ho];intro c h;cases h) Q
 | assign x=>exact((ran_move (.inr ho) hd hs).ran hd).wpIn hF (by rw[ho];intro c h;cases h) Q
 | pick c x y=>exact((ran_pick ho hd hs).ran hd).wpIn hF (by rw[ho];intro c h;cases h) Q
 | alloc t=>exact(ran_alloc hT ho hN hd hs).wpIn hF (by rw[ho];intro c h;cases h) Q
 | box t x=>exact(ran_box ho hN hd hs).wpIn hF (by rw[ho];intro c h;cases h) Q
 | build t ps=>exact((ran_build hT ho hd hs).ran hd).wpIn hF (by rw[ho];intro c h;cases h) Q
 | buildSlice t n ps=>exact(ran_buildSlice hT ho hd hs).wpIn hF (by rw[ho];intro c h;cases h) Q
 | load t x=>exact((ran_load hT (conOk hX) ho hd hs).ran hd).wpIn hF (by rw[ho];intro c h;cases h) Q
 | store t x y=>exact(ran_store hT ho hd hs (fun k e xs hx=>ran_storeE hT ho hx hd hs)).wpIn hF (by rw[ho];intro c h;cases h) Q
 | fieldAddr s x f=>exact((ran_fieldAddr hT ho hd hs).ran hd).wpIn hF (by rw[ho];intro c h;cases h) Q
 | field s x f=>exact((ran_field hT ho hd hs).ran hd).wpIn hF (by rw[ho];intro c h;cases h) Q
 | indexAddr t x ix=>exact((ran_indexAddr hT ho hd hs).ran hd).wpIn hF (by rw[ho];intro c h;cases h) Q
 | index t x ix=>exact((ran_index hT ho hd hs).ran hd).wpIn hF (by rw[ho];intro c h;cases h) Q
 | slice t x lo hi mx=>exact((ran_slice hT ho hd hs).ran hd).wpIn hF (by rw[ho];intro c h;cases h) Q
 | lookup t x ix ok=>exact(ran_lookup hT ho hd hs).wpIn hF (by rw[ho];intro c h;cases h) Q
 | extract x i=>exact((ran_extract ho hd hs).ran hd).wpIn hF (by rw[ho];intro c h;cases h) Q
 | binOp op t x y t'=>exact((ran_binOp hT ho hd hs).ran hd).wpIn hF (by rw[ho];intro c h;cases h) Q
 | unOp op t x=>exact((ran_unOp ho hd hs).ran hd).wpIn hF (by rw[ho];intro c h;cases h) Q
 | convert s t x=>
  cases hqs:bysB t
  ·exact((ran_convert hT hqs ho hd hs).ran hd).wpIn hF (by rw[ho];intro c h;cases h) Q
  ·exact(ran_convertB hT hqs ho hd hs).wpIn hF (by rw[ho];intro c h;cases h) Q
 | makeInterface t x=>exact((ran_makeInterface hT ho hd hs).ran hd).wpIn hF (by rw[ho];intro c h;cases h) Q
 | makeFunc fn first captured=>exact((ran_makeFunc ho hd hs).ran hd).wpIn hF (by rw[ho];intro c h;cases h) Q
 | nilCheck x=>exact((ran_nilCheck ho hd hs).ran hd).wpIn hF (by rw[ho];intro c h;cases h) Q
 | call c=>
  cases hc:c.callee with
  | value gv=>exact call_wpIn hX hF ho hc Q hd hN hs
  | invoke r m=>exfalso;unfold semOp at hs;rw[ho] at hs;dsimp only at hs;rw[hc] at hs;exact hs
  | builtin b=>
   cases b with
   | len=>exact((ran_len hT ho hc hd hs).ran hd).wpIn hF (by rw[ho];intro c h;cases h) Q
   | min=>exact((ran_min ho hc hd hs).ran hd).wpIn hF (by rw[ho];intro c h;cases h) Q
   | max=>exact((ran_max ho hc hd hs).ran hd).wpIn hF (by rw[ho];intro c h;cases h) Q
   | append=>exact(ran_append hT ho hc hd hs).wpIn hF (by rw[ho];intro c h;cases h) Q
   | _=>exfalso;unfold semOp at hs;rw[ho] at hs;dsimp only at hs;rw[hc] at hs;exact hs
 | _=>exfalso;unfold semOp at hs;rw[ho] at hs;exact hs
theorem wanted_of{ops:Array Oper}{o go:Oper}{a:Act}{w:World}{g:Gh}{st:St}{p:Nat×Bool}{d:Nat}{q:Bool}(hd:Hd P X base S st a w g)(hg:o.guard=some p)(hgo:ops.toList[p.1]? =some go)(hdst:go.dst=some d)(hq:tget st.env d=.v (.bool q)):Region.wanted o (yielded ops a.tmps)=(q==p.2):=by
 have hev:=hd.env d
 rw[hq] at hev
 have hev':a.eval (.tmp d)=.bool q:=hev
 unfold Region.wanted
 rw[hg]
 have hyy:yielded ops a.tmps p.1=some q:=by
  unfold yielded
  rw[Array.getElem?_toList] at hgo
  rw[hgo]
  simp only[Option.bind_some,hdst]
  have h2:a.tmps.getD d undef=.bool q:=hev'
  cases h3:a.tmps[d]? with
  | none=>rw[Array.getD_eq_getD_getElem?,h3] at h2;cases h2
  | some z=>rw[Array.getD_eq_getD_getElem?,h3] at h2;rw[show z=_ from h2]
 show(yielded ops a.tmps p.1==some p.2)=_
 rw[hyy]
 cases q <;> cases p.2 <;> rfl
theorem semG_wpIn{X0:En}(hX:X.Le X0){F:Fence}(hF:Open F)(hT:TabOk P tb){n:Nat}{ops:Array Oper}{o:Oper}{a:Act}{w:World}{g:Gh}{st:St}{K:St→Prop}(Q:Exit→Act→World→Prop)(hN:st.n=N)(hd:Hd P X base S st a w g)(hs:semG tb (Cn P X0) ops.toList o st K):
    if Region.wanted o (yielded ops a.tmps) then o.wpIn F n P a w (Aft P X base S N st.lv (bad o a) o.dst a w g K) Q else(∀f,o.about P w a.eval=some f→F.fn f)∧Aft P X base S N st.lv (bad o a) o.dst a w g K (a.put o.dst undef) w:=by
  unfold semG at hs
  rw[frc_put] at hs
  split at hs
  · rename_i hg
    rw[if_pos (by simp[Region.wanted,hg])]
    exact sem_wpIn hX hF hT Q hN hd hs
  · rename_i p hg
    split at hs <;> try exact hs.elim
    rename_i go hgo
    split at hs <;> try exact hs.elim
    rename_i d hdst
    have hev:=hd.env d
    have hy:∀q:Bool,tget st.env d=.v (.bool q)→Region.wanted o (yielded ops a.tmps)=(q==p.2):=fun q hq=>wanted_of hd hg hgo hdst hq
    have skip:K (st.put o.dst (.tup []))→(∀f,o.about P w a.eval=some f→F.fn f)∧Aft P X base S N st.lv (bad o a) o.dst a w g K (a.put o.dst undef) w:=fun hk=>
      ⟨fun f _=>hF.fn f,_,g,hk,hd.put o.dst (show RepT P w g (.tup []) undef from⟨#[],rfl,rfl⟩),Stp.refl _ _ _ _ _ _,put_defers _ _ _,(by rw[St.put_lv];exact(Tame.refl _ _ _).b),put_size _ _ _,put_keep _ _ _⟩
    have hz:tget st.env d=.tup []→Region.wanted o (yielded ops a.tmps)=false:=fun hq=>by
      rw[hq] at hev
      obtain⟨vs,h2,h3⟩:=hev
      have h4:a.tmps.getD d undef=.tuple #[]:=by
        rw[show vs=#[] from Array.toList_inj.1 (show vs.toList=[] from h3)] at h2
        exact h2
      unfold Region.wanted
      rw[hg]
      have hyy:yielded ops a.tmps p.1=none:=by
        unfold yielded
        rw[Array.getElem?_toList] at hgo
        rw[hgo]
        simp only[Option.bind_some,hdst]
        cases h3:a.tmps[d]? with
        | none=>rfl
        | some z=>
          rw[Array.getD_eq_getD_getElem?,h3] at h4
          rw[show z=.tuple #[] from h4]
      show(yielded ops a.tmps p.1==some p.2)=_
      rw[hyy]
      cases p.2 <;> rfl
    split at hs <;> try exact hs.elim
    all_goals
      first
        | (rename_i h1 h2
           rw[hy _ h1,h2]
           first
             | exact sem_wpIn hX hF hT Q hN hd hs
             | exact skip hs)
        | (rename_i h1
           rw[hz h1]
           exact skip hs)
end Go.Proofs.YtknelogmocedeaaGreatDoor
