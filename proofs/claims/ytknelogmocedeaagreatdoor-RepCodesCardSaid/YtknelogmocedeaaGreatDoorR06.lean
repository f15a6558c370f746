/- The walk without memory is right: rows of one's own: slice literals, append. Whatever program. -/
import Derived.Test.YtknelogmocedeaaGreatDoorR05
namespace Go.Proofs.YtknelogmocedeaaGreatDoor
open Go.RowKit
set_option linter.unusedVariables false
variable {P : Program} {X : En} {base N : Nat} {S : Nat → Prop} {tb : Tab} {C : Con}
def RepF(w:World)(L:Lv)(m:Nat)(xs:List (List V))(vals:List Value):Prop:=vals.length=xs.length*m∧∀(i:Nat) (c:List V),xs[i]? =some c→c.length=m∧RepL w L c ((vals.drop (i*m)).take m)
theorem RepF.mono {w w':World}{L L':Lv}{m:Nat}{xs:List (List V)}{vals:List Value}(h:Same L w L' w')(r:RepF w L m xs vals):RepF w' L' m xs vals:=
 ⟨r.1,fun i c hc=>⟨(r.2 i c hc).1,RepL.mono h _ _ (r.2 i c hc).2⟩⟩
theorem RepF.append {w:World}{L:Lv}{m:Nat}{xs ys:List (List V)}{us vs:List Value}(r:RepF w L m xs us)(k:RepF w L m ys vs):RepF w L m (xs++ys) (us++vs):=by
 refine⟨by rw[List.length_append,List.length_append,r.1,k.1,Nat.add_mul],fun i c hc=>?_⟩
 by_cases hi:i < xs.length
 ·rw[List.getElem?_append_left hi] at hc
  obtain⟨h1,h2⟩:=r.2 i c hc
  refine⟨h1,?_⟩
  have hle:(i+1)*m≤us.length:=by rw[r.1];exact Nat.mul_le_mul_right m hi
  rw[Nat.add_mul] at hle
  rw[List.drop_append_of_le_length (by omega),List.take_append_of_le_length (by rw[List.length_drop];omega)]
  exact h2
 ·rw[List.getElem?_append_right (by omega)] at hc
  obtain⟨h1,h2⟩:=k.2 _ c hc
  refine⟨h1,?_⟩
  have hge:us.length≤i*m:=by rw[r.1];exact Nat.mul_le_mul_right m (by omega)
  rw[List.drop_append,List.drop_eq_nil_of_le hge,List.nil_append,r.1,←Nat.mul_sub_right_distrib]
  exact h2
theorem own_cell{w:World}{e m n:Nat}{v:Value}{vals:List Value}(h:w.ownsRow base e m v n vals){b:Nat}(hb:v.ownBlock=some b):∃cap,v=.slice (some ⟨b,0,none⟩) n cap∧n≤cap∧∀(j:Nat) (u:Value),vals[j]? =some u→w.cell? ⟨b,j,none⟩=some u:=by
 rcases h.2 with⟨rfl,_⟩ | ⟨gg,cap,cur,rfl,h1,h2,h3,h4,h5,h6⟩
 ·cases hb
 ·cases hb
  refine⟨cap,rfl,h3,fun j u hj=>?_⟩
  rw[←h6,List.getElem?_take] at hj
  split at hj
  ·exact cel h2 j (by rwa [Array.getElem?_toList] at hj)
  ·cases hj
theorem own_repF{w:World}{L:Lv}{e m n:Nat}{v:Value}{vals:List Value}{xs:List (List V)}(h:w.ownsRow base e m v n vals)(r:Rep w L (.sl xs) v)(hl:∀c∈xs,c.length=m):n=xs.length∧RepF w L m xs vals:=by
 obtain⟨A,c,hv,hle,hne⟩:=r
 by_cases hx:xs=[]
 ·subst hx
  have hn:n=0:=by
   rcases h.2 with⟨_,rfl⟩ | ⟨gg,cap,cur,h1,_⟩
   ·rfl
   ·rw[hv] at h1;cases h1;rfl
  subst hn
  exact⟨rfl,by have:=h.1;simpa using this,fun i c hc=>by simp at hc⟩
 ·obtain⟨b,of,k,rfl,hr⟩:=hne hx
  obtain⟨cap,h1,h2,h3⟩:=own_cell h (b:=b) (by rw[hv];rfl)
  rw[hv] at h1
  cases h1
  have hk:k=m:=by
   have h0:xs[0]? =some (xs[0]'(by cases xs;exact absurd rfl hx;simp)):=List.getElem?_eq_getElem _
   rw[←(hr.get h0).1,hl _ (List.mem_of_getElem? h0)]
  subst hk
  refine⟨rfl,h.1,fun i c hc=>?_⟩
  obtain⟨c1,c2⟩:=hr.get hc
  refine⟨c1,?_⟩
  obtain⟨us,u1,u2,u3⟩:=c2.vals
  have hi:=(List.getElem?_eq_some_iff.1 hc).1
  have hlen:(i+1)*k≤vals.length:=by rw[h.1];exact Nat.mul_le_mul_right k hi
  rw[Nat.add_mul] at hlen
  have:(vals.drop (i*k)).take k=us:=by
   apply List.ext_getElem?
   intro j
   by_cases hj:j < k
   ·rw[List.getElem?_take,if_pos hj,List.getElem?_drop]
    obtain⟨u,hu⟩:∃u,vals[i*k+j]? =some u:=⟨_,List.getElem?_eq_getElem (by omega)⟩
    obtain⟨u',hu'⟩:∃u',us[j]? =some u':=⟨_,List.getElem?_eq_getElem (by omega)⟩
    have e1:=h3 _ _ hu
    have e2:=u3 _ _ hu'
    rw[Nat.zero_add] at e2
    rw[hu,hu',←e1,←e2]
   ·rw[List.getElem?_eq_none (by rw[List.length_take];omega),List.getElem?_eq_none (by omega)]
  rw[this]
  exact u2
theorem repF_own{w:World}{L:Lv}{e m n:Nat}{v:Value}{vals:List Value}{xs:List (List V)}(h:w.ownsRow base e m v n vals)(hn:n=xs.length)(r:RepF w L m xs vals)(hL:∀b,v.ownBlock=some b→∀o,o < n*m→L b o):Rep w L (.sl xs) v:=by
 subst hn
 cases hb:v.ownBlock with
 | none=>
  rcases h.2 with⟨rfl,h0⟩ | ⟨gg,cap,cur,rfl,_⟩
  ·have:xs=[]:=List.eq_nil_of_length_eq_zero h0
   subst this
   exact⟨none,0,rfl,Nat.le_refl _,fun e=>absurd rfl e⟩
  ·cases hb
 | some b=>
  obtain⟨cap,hv,h2,h3⟩:=own_cell h hb
  refine⟨_,cap,hv,h2,fun _=>⟨b,0,m,rfl,RepE.of_get _ _ fun i c hc=>?_⟩⟩
  obtain⟨c1,c2⟩:=r.2 i c hc
  have hi:=(List.getElem?_eq_some_iff.1 hc).1
  have hlen:(i+1)*m≤xs.length*m:=Nat.mul_le_mul_right m hi
  rw[Nat.add_mul] at hlen
  refine⟨c1,RepC.of_get _ _ fun j x hx=>?_⟩
  have hj:=(List.getElem?_eq_some_iff.1 hx).1
  obtain⟨u,hu,h1,hr⟩:=c2.get hx
  rw[List.getElem?_take,if_pos (by omega),List.getElem?_drop] at hu
  exact⟨u,hL b hb _ (by omega),by rw[Nat.zero_add];exact h3 _ _ hu,h1,hr⟩
theorem lget_cons_eq(k:Nat)(x:Option Nat)(l:List (Nat×Option Nat)):lget ((k,x)::l) k=x:=by
 unfold lget
 rw[lk_cons_eq]
 cases x <;> rfl
theorem lget_cons_ne{k k':Nat}(x:Option Nat)(l:List (Nat×Option Nat))(h:k≠k'):lget ((k',x)::l) k=lget l k:=by
 unfold lget
 rw[lk_cons_ne _ _ h]
def St.rowK (st:St)(kk:Option Nat)(d e:Nat):St:=match kk with
 | none=>st.row d e
 | some k=>(st.kill k).row d e
def Gh.own (g:Gh)(L:Lv)(d:Nat)(v:Value):Gh:={L:=L,ρ:=g.ρ,κ:=fun i=>if i=d then v else g.κ i}
theorem Gh.own_eq (g:Gh)(L:Lv)(d:Nat)(v:Value):(g.own L d v).κ d=v:=if_pos rfl
theorem Gh.own_ne (g:Gh)(L:Lv){d i:Nat}(v:Value)(h:i≠d):(g.own L d v).κ i=g.κ i:=if_neg h
def Gh.kb (g:Gh)(kk:Option Nat):Option Nat:=match kk with
 | some k=>(g.κ k).ownBlock
 | none=>none
def scrKK(d:Nat)(kk:Option Nat)(t:T):T:=match kk with
 | none=>scrK d t
 | some k=>scrK d (scrK k t)
theorem Hd.rowK {st:St}{a:Act}{w w1:World}{g:Gh}(hd:Hd P X base S st a w g)(kk:Option Nat)(d e:Nat)(hk:∀k,kk=some k→lget st.lv k=some e){v':Value}{n:Nat}{vals:List Value}
  (hg:w.grownBy w1 (g.kb kk)) (hown:w1.ownsRow base e (P.cellsOf e) v' n vals)
  (hpl:v'.ownBlock=none∨v'.ownBlock=some w.heap.size∨∃k b,kk=some k∧(g.κ k).ownBlock=some b∧v'.ownBlock=some b∧∀o,g.L b o→o < n*P.cellsOf e)
  (hsame:Same g.L w g.L w1):
  Hd P X base S (st.rowK kk d e) a w1 (g.own (fun b o=>g.L b o∨(v'.ownBlock=some b∧o < n*P.cellsOf e)) d v')∧Stp X base S N w g w1 (g.own (fun b o=>g.L b o∨(v'.ownBlock=some b∧o < n*P.cellsOf e)) d v')∧Tame w g st.lv w1 (g.own (fun b o=>g.L b o∨(v'.ownBlock=some b∧o < n*P.cellsOf e)) d v') (st.rowK kk d e).lv:=by
 have hle:=hd.le
 have hk0:=hk
 have hs:Same g.L w (fun b o=>g.L b o∨(v'.ownBlock=some b∧o < n*P.cellsOf e)) w1:=⟨fun b o u h1 h2=>⟨.inl (hsame.c b o u h1 h2).1,(hsame.c b o u h1 h2).2⟩,hsame.m⟩
 have hbase:∀b,(g.kb kk)=some b→base≤b∧b < w.heap.size∧∀i,isK st.bs i→(g.ρ i).1≠b:=fun b hb=>by
  cases kk with
  | none=>cases hb
  | some k=>
   obtain⟨n0,vals0,o1,o2⟩:=hd.mm.own (hk k rfl)
   exact⟨(o1.lt b hb).1,(o1.lt b hb).2,(o2 b hb).2⟩
 have hvb:∀b,v'.ownBlock=some b→base≤b∧∀i,isK st.bs i→(g.ρ i).1≠b:=fun b hb=>by
  refine⟨(hown.lt b hb).1,fun i hi=>?_⟩
  rcases hpl with h | h | ⟨k,b',rfl,h1,h2,_⟩
  ·rw[h] at hb;cases hb
  ·rw[h] at hb;cases hb;exact Nat.ne_of_lt (hd.mm.lt hi)
  ·rw[h2] at hb;cases hb;exact(hbase b h1).2.2 i hi
 have hvE:∀b,v'.ownBlock=some b→¬X.Eb b:=fun b hb=>by
  rcases hpl with h | h | ⟨k,b',rfl,h1,h2,_⟩
  ·rw[h] at hb;cases hb
  ·rw[h] at hb;cases hb;intro hE;exact absurd (X.lt hd.E hE) (Nat.lt_irrefl _)
  ·rw[h2] at hb;cases hb;exact hd.mm.ownE (hk0 k rfl) h1
 have scr:∀{t:T} {v:Value},RepT P w g t v→RepT P w1 (g.own (fun b o=>g.L b o∨(v'.ownBlock=some b∧o < n*P.cellsOf e)) d v') (scrKK d kk t) v:=fun {t v} r=>by
  cases kk with
  | none=>exact scrK_rep (g':=g.own _ d v') hs rfl (fun i hi=>g.own_ne _ _ hi) r
  | some k=>
   have h1:RepT P w1 {g with L:=fun b o=>g.L b o∨(v'.ownBlock=some b∧o < n*P.cellsOf e)} (scrK k t) v:=scrK_rep (g:=g) (w:=w) (g':={g with L:=fun b o=>g.L b o∨(v'.ownBlock=some b∧o < n*P.cellsOf e)}) hs rfl (fun _ _=>rfl) r
   exact scrK_rep (g:={g with L:=fun b o=>g.L b o∨(v'.ownBlock=some b∧o < n*P.cellsOf e)}) (w:=w1) (g':=g.own (fun b o=>g.L b o∨(v'.ownBlock=some b∧o < n*P.cellsOf e)) d v') (Same.refl _ _) rfl (fun i hi=>g.own_ne _ _ hi) h1
 have hun:∀k,scrK k .un=.un:=fun k=>rfl
 have henv:∀t,tget (st.rowK kk d e).env t=scrKK d kk (tget st.env t):=fun t=>by
  cases kk with
  | none=>exact tget_scr (hun d) _ _
  | some k=>exact(tget_scr (hun d) _ _).trans (by rw[tget_scr (hun k)];rfl)
 have hbs:∀i,lk i (st.rowK kk d e).bs=(lk i st.bs).map (fun l=>l.map (scrKK d kk)):=fun i=>by
  cases kk with
  | none=>exact lk_scrBs _ _ _
  | some k=>
   refine(lk_scrBs _ _ _).trans ?_
   rw[lk_scrBs,Option.map_map]
   congr 1
   funext l
   simp[List.map_map,Function.comp_def,scrKK]
 have hK:∀i,isK (st.rowK kk d e).bs i↔isK st.bs i:=fun i=>by unfold isK;rw[hbs];simp
 have hlv:∀k' e',k'≠d→lget (st.rowK kk d e).lv k'=some e'→lget st.lv k'=some e'∧kk≠some k':=fun k' e' hne h=>by
  cases kk with
  | none=>
   rw[show(st.rowK none d e).lv=(d,some e)::st.lv from rfl,lget_cons_ne _ _ hne] at h
   exact⟨h,by simp⟩
  | some k=>
   rw[show(st.rowK (some k) d e).lv=(d,some e)::(k,none)::st.lv from rfl,lget_cons_ne _ _ hne] at h
   by_cases hkk:k'=k
   ·subst hkk;rw[lget_cons_eq] at h;cases h
   ·rw[lget_cons_ne _ _ hkk] at h
    exact⟨h,by simp;exact fun e=>hkk e.symm⟩
 have hlvd:lget (st.rowK kk d e).lv d=some e:=by
  cases kk <;> exact lget_cons_eq _ _ _
 have blk:∀k' e',lget st.lv k'=some e'→kk≠some k'→(g.κ k').ownBlock=none∨(g.κ k').ownBlock≠(g.kb kk):=fun k' e' h hne=>by
  cases kk with
  | none=>cases hh:(g.κ k').ownBlock <;> simp[Gh.kb]
  | some k=>exact hd.mm.ownInj h (hk k rfl) (fun e=>hne (by rw[e]))
 have vblk:∀k' e',lget st.lv k'=some e'→kk≠some k'→∀b,(g.κ k').ownBlock=some b→v'.ownBlock≠some b:=fun k' e' h hne b hb hv=>by
  obtain⟨n0,vals0,o1,o2⟩:=hd.mm.own h
  have hlt:=(o1.lt b hb).2
  rcases hpl with h0 | h0 | ⟨k,b',rfl,h1,h2,_⟩
  ·rw[h0] at hv;cases hv
  ·rw[h0] at hv;cases hv;exact absurd hlt (Nat.lt_irrefl _)
  ·rw[h2] at hv;cases hv
   rcases blk k' e' h hne with h3 | h3
   ·rw[h3] at hb;cases hb
   ·exact h3 (by rw[hb];exact h1.symm)
 have old:∀i,isK st.bs i→w1.heap[(g.ρ i).1]? =w.heap[(g.ρ i).1]? :=fun i hi=>hg.block _ (hd.mm.lt hi) (fun e=>(hbase _ e.symm).2.2 i hi rfl)
 have hup:Upd (fun b=>S b∨base≤b) w w1:=⟨hg.os,hg.tape,hg.output,hg.size,fun b hb hn=>hg.block b hb (fun e=>hn (.inr (hbase b e.symm).1))⟩
 refine⟨⟨hd.sz.trans ?_,fun t=>?_,?_,?_,Nat.le_trans hle hg.size⟩,⟨hup,hs,fun h=>h.elim .inl (fun h=>.inr ⟨(hvb _ h.1).1,hvE _ h.1⟩),fun _=>rfl,fun {k o} hk hc=>by
  by_cases hrow:some k=g.kb kk
  ·cases kk with
   | none=>cases hrow
   | some k0=>
    obtain⟨n0,vals0,o1,o2⟩:=hd.mm.own (hk0 k0 rfl)
    rcases o1.2 with⟨h0,_⟩ | ⟨gg,cap,cur,h0,_,h1,_⟩
    ·rw[show g.kb (some k0)=(g.κ k0).ownBlock from rfl,h0] at hrow;cases hrow
    ·rw[show g.kb (some k0)=(g.κ k0).ownBlock from rfl,h0] at hrow
     cases hrow
     rw[hk] at h1
     cases h1
     cases hc
  ·rw[hg.block k (Array.getElem?_eq_some_iff.1 hk).1 hrow];exact hk⟩,?_⟩
 ·cases kk <;> rfl
 ·rw[henv];exact scr (hd.env t)
 ·refine⟨?_,?_,?_,?_,?_,?_,?_,?_,?_,?_,?_,?_⟩
  ·intro i cs hi j c hj
   rw[hbs] at hi
   obtain⟨cs0,hcs0,rfl⟩:=Option.map_eq_some_iff.1 hi
   rw[List.getElem?_map] at hj
   obtain⟨c0,hc0,rfl⟩:=Option.map_eq_some_iff.1 hj
   obtain⟨u,hu,hr,h1⟩:=hd.mm.box hcs0 hc0
   refine⟨u,?_,scr hr,h1⟩
   show w1.cell? ⟨(g.ρ i).1,(g.ρ i).2+j,none⟩=some u
   rw[cell_old (old i (by unfold isK;rw[hcs0];rfl))]
   exact hu
  ·intro i hi j
   show w1.frozen? ⟨(g.ρ i).1,j,none⟩=false
   rw[frozen_old (old i ((hK i).1 hi))]
   exact hd.mm.frz ((hK i).1 hi) j
  ·rintro i hi o (h | ⟨h,_⟩)
   ·exact hd.mm.bxL ((hK i).1 hi) o h
   ·exact(hvb _ h).2 i ((hK i).1 hi) rfl
  ·exact fun hi=>hd.mm.bxE ((hK _).1 hi)
  ·exact fun hi=>hd.mm.loc ((hK _).1 hi)
  ·exact fun hi=>Nat.lt_of_lt_of_le (hd.mm.lt ((hK _).1 hi)) hg.size
  ·exact fun hi hj=>hd.mm.inj ((hK _).1 hi) ((hK _).1 hj)
  ·intro k' e' h
   by_cases hkd:k'=d
   ·subst hkd
    rw[hlvd] at h
    cases h
    rw[Gh.own_eq]
    refine⟨n,vals,hown,fun b hb=>⟨?_,fun i hi=>(hvb b hb).2 i ((hK i).1 hi)⟩⟩
    rintro o (h | ⟨_,h⟩)
    ·rcases hpl with h0 | h0 | ⟨k,b',_,_,h2,h3⟩
     ·rw[h0] at hb;cases hb
     ·rw[h0] at hb;cases hb;exact absurd (hd.mm.Llt h) (Nat.lt_irrefl _)
     ·rw[h2] at hb;cases hb;exact h3 o h
    ·exact h
   ·obtain⟨h1,h2⟩:=hlv k' e' hkd h
    rw[Gh.own_ne _ _ _ hkd]
    obtain⟨n0,vals0,o1,o2⟩:=hd.mm.own h1
    refine⟨n0,vals0,o1.kept hg (blk k' e' h1 h2),fun b hb=>⟨?_,fun i hi=>(o2 b hb).2 i ((hK i).1 hi)⟩⟩
    rintro o (h | ⟨h,_⟩)
    ·exact(o2 b hb).1 o h
    ·exact absurd h (vblk k' e' h1 h2 b hb)
  ·intro k k' e1 e2 h1 h2 hne
   by_cases hkd:k=d
   ·subst hkd
    rw[Gh.own_eq,Gh.own_ne _ _ _ (Ne.symm hne)]
    obtain⟨h3,h4⟩:=hlv k' e2 (Ne.symm hne) h2
    cases hb:v'.ownBlock with
    | none=>exact .inl rfl
    | some b=>exact .inr fun e=>vblk k' e2 h3 h4 b e.symm hb
   ·obtain⟨h3,h4⟩:=hlv k e1 hkd h1
    rw[Gh.own_ne _ _ _ hkd]
    by_cases hkd':k'=d
    ·subst hkd'
     rw[Gh.own_eq]
     cases hb:(g.κ k).ownBlock with
     | none=>exact .inl rfl
     | some b=>exact .inr fun e=>vblk k e1 h3 h4 b hb e.symm
    ·rw[Gh.own_ne _ _ _ hkd']
     exact hd.mm.ownInj h3 (hlv k' e2 hkd' h2).1 hne
  ·rintro b o (h | ⟨h,ho⟩)
   ·obtain⟨u,hu⟩:=hd.mm.Lc h
    exact⟨u,(hsame.c b o u h hu).2⟩
   ·obtain⟨_,_,_,hc⟩:=own_cell hown h
    exact⟨_,hc o _ (List.getElem?_eq_getElem (by rw[hown.1];exact ho))⟩
  ·intro i hi
   show ∃c t fr,w1.heap[(g.ρ i).1]? =some (.cells c t fr)
   rw[old i ((hK i).1 hi)]
   exact hd.mm.bc ((hK i).1 hi)
  ·intro k' e' b h hb
   by_cases hkd:k'=d
   ·subst hkd
    rw[Gh.own_eq] at hb
    exact hvE b hb
   ·rw[Gh.own_ne _ _ _ hkd] at hb
    exact hd.mm.ownE (hlv k' e' hkd h).1 hb
 ·exact X.upd (S:=fun b=>some b=g.kb kk) ⟨hg.os,hg.tape,hg.output,hg.size,fun b hb hn=>hg.block b hb hn⟩ (fun b hb=>by
   cases kk with
   | none=>cases hb
   | some k=>exact hd.mm.ownE (hk0 k rfl) hb.symm) hd.E
 ·rintro b o u ⟨hlt,hsf⟩ hc
  rcases hsf with hL | hno
  ·exact⟨(hsame.c b o u hL hc).2,Nat.lt_of_lt_of_le hlt hg.size,.inl (.inl hL)⟩
  ·have hrow:some b≠g.kb kk:=fun e=>by
    cases kk with
    | none=>cases e
    | some k=>exact hno k _ (hk k rfl) e.symm
   refine⟨by rw[cell_old (hg.block b hlt hrow)];exact hc,Nat.lt_of_lt_of_le hlt hg.size,.inr fun k' e' h hb=>?_⟩
   by_cases hkd:k'=d
   ·subst hkd
    rw[Gh.own_eq] at hb
    rcases hpl with h0 | h0 | ⟨k,b',rfl,h1,h2,_⟩
    ·rw[h0] at hb;cases hb
    ·rw[h0] at hb;cases hb;exact absurd hlt (Nat.lt_irrefl _)
    ·rw[h2] at hb;cases hb;exact hno k _ (hk k rfl) h1
   ·rw[Gh.own_ne _ _ _ hkd] at hb
    exact hno k' e' (hlv k' e' hkd h).1 hb
theorem ran_buildSlice(hT:TabOk P tb){o:Oper}{t:TypeId}{n:Nat}{ps:Array (Nat×Operand)}(ho:o.op=.buildSlice t n ps){a:Act}{w:World}{g:Gh}{st:St}{K:T→St→Prop}(hd:Hd P X base S st a w g)(hs:semOp tb C o st K):Ran P X base S N st o a w g K:=by
 unfold semOp at hs
 rw[ho] at hs
 dsimp only at hs
 split at hs <;> try exact hs.elim
 rename_i d hdst
 split at hs <;> try exact hs.elim
 rename_i e he
 split at hs <;> try exact hs.elim
 rename_i q hq
 split at hs <;> try exact hs.elim
 rename_i xs hxs
 split at hs <;> try exact hs.elim
 rename_i hn
 split at hs <;> try exact hs.elim
 rename_i hle
 split at hs <;> try exact hs.elim
 rename_i n
 rw[frcAll_eq] at hs
 have hn':xs.length=n+1:=Nat.eq_of_beq_eq_true hn
 have hle':(n+1)*q.1≤1000:=Nat.le_of_ble_eq_true hle
 obtain⟨s1,s2,s3,s4,s5,s6⟩:=hT.siz hq
 obtain⟨ie,z,b1,b2,b3,b4⟩:=hT.byt hq
 have hie:ie.size=q.1:=by rw[←s2];simp[Program.cellsOf,b1]
 have elems:∀(l:List (Nat×Operand)) (i:Nat) (ys:List (List V)),elemsV q.1 i (l.map fun p=>(p.1,(st.ev p.2).toV))=some ys→l.length=ys.length∧l.map (fun p=>(p.1,a.eval p.2))=((l.map fun p=>a.eval p.2).zipIdx i).map (fun x=>(x.2,x.1))∧(∀v∈l.map fun p=>a.eval p.2,v.cells.size=q.1)∧RepF w g.L q.1 ys ((l.map fun p=>a.eval p.2).flatMap fun v=>v.cells.toList):=by
  intro l
  induction l with
  | nil=>intro i ys h;cases h;exact⟨rfl,rfl,fun v hv=>(by cases hv),by simp[RepF]⟩
  | cons p r ih=>
   intro i ys h
   rw[List.map_cons] at h
   unfold elemsV at h
   dsimp only at h
   split at h <;> try cases h
   rename_i hp
   split at h <;> try cases h
   rename_i x hx
   split at h <;> try cases h
   rename_i hb
   rw[Bool.and_eq_true] at hb
   split at h <;> try cases h
   rename_i zs hzs
   obtain⟨i1,i2,i3,i4⟩:=ih (i+1) zs hzs
   have hc:=cells_repl (toV_rep (hd.ev p.2) hx) (V.part_one hb.2)
   have hcl:x.cells.length=q.1:=Nat.eq_of_beq_eq_true hb.1
   have hsz:=hc.length
   refine⟨by simp[i1],?_,fun v hv=>?_,?_⟩
   ·rw[List.map_cons,List.map_cons,List.zipIdx_cons,List.map_cons,i2,Nat.eq_of_beq_eq_true hp]
   ·rw[List.map_cons] at hv
    rcases List.mem_cons.1 hv with rfl | hv
    ·rw[←Array.length_toList,hsz,hcl]
    ·exact i3 v hv
   ·rw[List.map_cons,List.flatMap_cons]
    have h1:RepF w g.L q.1 [x.cells] (a.eval p.2).cells.toList:=⟨by rw[hsz,hcl];simp,fun j c hj=>by
     cases j with
     | zero=>
      simp at hj;subst hj
      refine⟨hcl,?_⟩
      rw[Nat.zero_mul,List.drop_zero,List.take_of_length_le (by omega)]
      exact hc
     | succ j=>simp at hj⟩
    exact h1.append i4
 obtain⟨i1,i2,i3,i4⟩:=elems _ 0 _ hxs
 have hpl:(ps.map fun(i,x)=>(i,a.eval x)).toList=((ps.toList.map fun p=>a.eval p.2).zipIdx 0).map (fun x=>(x.2,x.1)):=by rw[Array.toList_map];exact i2
 have hfill:=Great.fill_whole (s:=q.1) (by omega) (ps.toList.map fun p=>a.eval p.2) ((Array.range ((n+1)*ie.size)).map (z.cells[· % z.cells.size]!)) i3 (by rw[List.length_map,i1,hn',hie];simp)
 have hrun:=run_buildSlice (P:=P) w t e (n+1) (ps.map fun(i,x)=>(i,a.eval x)) _ ie z (hT.elt he) b1 b2 (by rw[hie];omega) (by rw[hie];intro h;rcases Nat.mul_eq_zero.1 h with h | h;omega;exact s6 h) (by rw[hpl,hie] at*;exact hfill)
 generalize hvs:((ps.toList.map fun p=>a.eval p.2).flatMap fun v=>v.cells.toList)=vals at*
 have hown:(w.alloc (.cells vals.toArray e)).ownsRow base e (P.cellsOf e) (.slice (some ⟨w.heap.size,0,none⟩) (n+1) (n+1)) (n+1) vals:=by
  refine⟨by rw[i4.1,hn',s2],.inr ⟨w.heap.size,n+1,vals.toArray,rfl,hd.le,heap_alloc_new w _,Nat.le_refl _,by unfold maxLen;have:(n+1)*1≤(n+1)*q.1:=Nat.mul_le_mul_left _ (by omega);omega,by rw[List.size_toArray,i4.1,hn',s2],?_⟩⟩
  rw[List.take_of_length_le (by rw[i4.1,hn',s2];exact Nat.le_refl _)]
 obtain⟨h1,h2,htm⟩:=hd.rowK (N:=N) none d e (fun k h=>by cases h) (w1:=w.alloc (.cells vals.toArray e)) (new_grown w _ none) hown (.inr (.inl rfl)) (same_alloc w _)
 refine⟨.value (.slice (some ⟨w.heap.size,0,none⟩) (n+1) (n+1)),_,_,.own d e xs,_,_,?_,.inl rfl,hs,⟨?_,(g.own_eq _ _ _).symm,fun c hc=>?_⟩,h1,h2,htm.b⟩
 ·unfold execOp
  simp only[ho,Sem.run_bind,hrun,Result.andThen_ok,Sem.run_pure]
 ·refine repF_own hown hn'.symm ?_ fun b hb o ho'=>.inr ⟨hb,ho'⟩
  have h3:=i4.mono h2.same
  rw[←s2] at h3
  exact h3
 ·obtain⟨i,hi⟩:=List.mem_iff_getElem?.1 hc
  rw[s2]
  exact(i4.2 i c hi).1
theorem append_run(hT:TabOk P tb){t e:TypeId}{q:Nat×Bool}(he:lk t tb.elt=some e)(hq:lk e tb.siz=some q){w:World}{L:Lv}{v xv:Value}{n:Nat}{vals:List Value}(hown:w.ownsRow base e q.1 v n vals){ys:List (List V)}(hsrc:Rep w L (.sl ys) xv)(hlen:∀c∈ys,c.length=q.1)(hsz:n+ys.length≤1000000000)(hb:base≤w.heap.size)(ty:TypeId):
  ∃v' w1 news,(Builtin.append_ #[t,t] ty #[v,xv]).run P w=.ok v' w1∧w1.ownsRow base e q.1 v' (n+ys.length) (vals++news)∧w.grownBy w1 v.ownBlock∧(v'.ownBlock=v.ownBlock∨v'.ownBlock=some w.heap.size∧Below w.heap.size w w1)∧RepF w L q.1 ys news:=by
 obtain⟨s1,s2,s3,s4,s5,s6⟩:=hT.siz hq
 obtain⟨ie,z,b1,b2,b3,b4⟩:=hT.byt hq
 have hie:ie.size=q.1:=by rw[←s2];simp[Program.cellsOf,b1]
 obtain⟨A,c,rfl,hle,hne⟩:=hsrc
 by_cases hy:ys=[]
 ·subst hy
  refine⟨v,w,[],?_,by simpa using hown,grown_refl _ _,.inl rfl,⟨by simp,fun i c hc=>by simp at hc⟩⟩
  obtain⟨B,cap,rfl,hcap⟩:∃B cap,v=.slice B n cap∧n≤cap:=by
   rcases hown.2 with⟨rfl,rfl⟩ | ⟨gg,cap,cur,rfl,_,_,h,_⟩
   ·exact⟨none,0,rfl,Nat.le_refl _⟩
   ·exact⟨_,cap,rfl,h⟩
  refine run_append_nothing w t t ty e ie (hT.elt he) b1 B n cap hcap _ ?_
  cases A with
  | none=>exact Src.ofNil w (hT.elt he) c
  | some ad=>exact Src.ofSlice w (hT.elt he) ad 0 c [] (by simp) (fun j u hu=>by simp at hu) (fun u hu=>by cases hu)
 ·obtain⟨b,of,k,rfl,hr⟩:=hne hy
  have hk:k=q.1:=by
   have h0:ys[0]? =some (ys[0]'(by cases ys;exact absurd rfl hy;simp)):=List.getElem?_eq_getElem _
   rw[←(hr.get h0).1,hlen _ (List.mem_of_getElem? h0)]
  subst hk
  obtain⟨news,n1,n2,n3⟩:=hr.vals
  have hf:RepF w L q.1 ys news:=⟨n1,fun i c hc=>⟨(hr.get hc).1,n2 i c hc⟩⟩
  have one:∀u∈news,u.oneCell'=true:=fun u hu=>by
   obtain⟨j,hj⟩:=List.mem_iff_getElem?.1 hu
   have hjl:=(List.getElem?_eq_some_iff.1 hj).1
   have hm:0 < q.1:=by omega
   have hi:j / q.1 < ys.length:=(Nat.div_lt_iff_lt_mul hm).2 (by omega)
   have h1:=(hf.2 (j / q.1) _ (List.getElem?_eq_getElem hi)).2.one_vals
   refine h1 u (List.mem_of_getElem? (i:=j % q.1) ?_)
   rw[List.getElem?_take,if_pos (Nat.mod_lt _ hm),List.getElem?_drop,Nat.div_add_mod' j q.1]
   exact hj
  obtain⟨v',w1,r1,r2,r3,_,r5⟩:=run_append_own_at (P:=P) w base t ty e ie z q.1 ie.bytes (hT.elt he) b1 b2 hie rfl b3 (by omega) v n vals hown ⟨b,of,none⟩ ys.length c news n1 (fun j u hu=>by rw[Addr.add_mid];exact n3 j u hu) one (by unfold maxLen;omega) (by have:=Nat.mul_le_mul hsz b4;omega) hb
  refine⟨v',w1,news,r1,r2,r3,?_,hf⟩
  rcases hown.2 with⟨rfl,rfl⟩ | ⟨gg,cap,cur,rfl,h1,h2,h3,h4,h5,h6⟩
  ·rcases r5 with r5 | r5
   ·exact .inl r5
   ·exact .inr ⟨r5,r3.os,r3.tape,r3.output,r3.size,fun i hi=>r3.block i hi (by simp[Value.ownBlock])⟩
  ·by_cases hroom:n+ys.length≤cap
   ·have:=run_append_room (P:=P) w t ty e ie (hT.elt he) b1 gg n cap cur h2 ⟨b,of,none⟩ ys.length c news (by rw[hie];exact n1) (fun j u hu=>by rw[Addr.add_mid];exact n3 j u hu) one hroom (by rw[hie,h5,n1,←Nat.add_mul];exact Nat.mul_le_mul_right _ hroom)
    rw[r1] at this
    cases this
    exact .inl rfl
   ·have:=run_append_grow (P:=P) w t ty e ie z (hT.elt he) b1 b2 ⟨gg,0,none⟩ n cap vals (by rw[hie];exact hown.1) (hown.cells (g:=gg) rfl) ⟨b,of,none⟩ ys.length c news (by rw[hie];exact n1) (fun j u hu=>by rw[Addr.add_mid];exact n3 j u hu) (by omega) (by omega) (growslice_fits (by omega) (by have:=Nat.mul_le_mul hsz b4;omega))
    rw[r1] at this
    cases this
    exact .inr ⟨rfl,((Below.refl _ _).drew).alloc (Nat.le_refl _) _⟩
theorem append_same{w w1:World}{L:Lv}{base e m n n':Nat}{v v':Value}{vals news:List Value}(h:w.ownsRow base e m v n vals)(h1:w1.ownsRow base e m v' n' (vals++news))(hg:w.grownBy w1 v.ownBlock)(hpl:v'.ownBlock=v.ownBlock∨v'.ownBlock=some w.heap.size∧Below w.heap.size w w1)(hL:∀b,v.ownBlock=some b→∀o,L b o→o < n*m):Same L w L w1:=⟨fun b o u hb hc=>by
 refine⟨hb,?_⟩
 rcases hpl with hp | ⟨_,hbel⟩
 ·by_cases hv:v.ownBlock=some b
  ·obtain⟨_,_,_,c1⟩:=own_cell h hv
   obtain⟨_,_,_,c2⟩:=own_cell h1 (hp.trans hv)
   have ho:=hL b hv o hb
   have hget:vals[o]? =some (vals[o]'(by rw[h.1];exact ho)):=List.getElem?_eq_getElem _
   have e1:=c1 o _ hget
   have e2:=c2 o _ (by rw[List.getElem?_append_left (by rw[h.1];exact ho)];exact hget)
   rw[hc] at e1
   rw[e2,e1]
  ·exact cell_grown hc hg (fun e=>hv e.symm)
 ·exact cell_below hc hbel,fun k o h1' h2'=>by
 by_cases hv:v.ownBlock=some k
 ·rcases h.2 with⟨h0,_⟩ | ⟨gg,cap,cur,h0,_,h3,_⟩
  ·rw[h0] at hv;cases hv
  ·rw[h0] at hv;cases hv;rw[h3] at h1';cases h1';cases h2'
 ·exact(hg.block k (Array.getElem?_eq_some_iff.1 h1').1 (fun e=>hv e.symm)).trans h1'⟩
theorem own_pre{w:World}{e m n:Nat}{v:Value}{vals:List Value}(h:w.ownsRow base e m v (n+1) vals):∃b cap,v=.slice (some ⟨b,0,none⟩) (n+1) cap∧n+1≤cap∧w.ownsRow base e m (.slice (some ⟨b,0,none⟩) n cap) n (vals.take (n*m)):=by
 rcases h.2 with⟨_,h0⟩ | ⟨gg,cap,cur,rfl,h1,h2,h3,h4,h5,h6⟩
 ·omega
 ·have hle:n*m≤(n+1)*m:=Nat.mul_le_mul_right _ (Nat.le_succ n)
  refine⟨gg,cap,rfl,h3,by rw[List.length_take,h.1];omega,.inr ⟨gg,cap,cur,rfl,h1,h2,by omega,h4,h5,?_⟩⟩
  rw[←h6,List.take_take,Nat.min_eq_left hle]
theorem setCells_blk(b:Nat):∀(vs:List Value) (o:Nat) (w:World) {c:Array Value} {t:TypeId} {fr:Nat×Nat},w.heap[b]? =some (.cells c t fr)→∃c',(w.setCells b o vs).heap[b]? =some (.cells c' t fr)∧c'.size=c.size
 | [],_,_,c,_,_,h=>⟨c,h,rfl⟩
 | v::r,o,w,c,t,fr,h=>by
  rw[World.setCells]
  obtain⟨c',h1,h2⟩:=setCells_blk b r (o+1) _ (set_blk h o v)
  exact⟨c',h1,by rw[h2];simp⟩
theorem own_store{w:World}{e m n b cap:Nat}{vals us:List Value}(h:w.ownsRow base e m (.slice (some ⟨b,0,none⟩) n cap) n vals)(hc:n+1≤cap)(hu:us.length=m):(w.setCells b (n*m) us).ownsRow base e m (.slice (some ⟨b,0,none⟩) (n+1) cap) (n+1) (vals++us)∧(∀j,j < m→(w.cell? ⟨b,n*m+j,none⟩).isSome=true)∧(∀j,w.frozen? ⟨b,j,none⟩=false)∧∀o,w.heap[b]? =some o→isMapO o=false:=by
 rcases h.2 with⟨h0,_⟩ | ⟨gg,cap',cur,h0,h1,h2,h3,h4,h5,h6⟩
 ·cases h0
 ·cases h0
  have hmul:(n+1)*m≤cap*m:=Nat.mul_le_mul_right _ hc
  have hexp:(n+1)*m=n*m+m:=Nat.succ_mul n m
  have hvl:=h.1
  have hcell:∀j,j < m→(w.cell? ⟨b,n*m+j,none⟩).isSome=true:=fun j hj=>by
   rw[cel h2 (n*m+j) (v:=cur[n*m+j]'(by omega)) (Array.getElem?_eq_getElem _)];rfl
  obtain⟨c',k1,k2⟩:=setCells_blk b us (n*m) w h2
  have at_:∀j v,(w.setCells b (n*m) us).cell? ⟨b,j,none⟩=some v→c'[j]? =some v:=fun j v hv=>by
   simp only[World.cell?,k1] at hv
   simpa using hv
  have at0:∀j v,cur[j]? =some v→w.cell? ⟨b,j,none⟩=some v:=fun j v hv=>cel h2 j hv
  refine⟨⟨by rw[List.length_append,hvl,hu,hexp],.inr ⟨b,cap,c',rfl,h1,k1,hc,h4,k2.trans h5,?_⟩⟩,hcell,fun j=>by simp[World.frozen?,h2],fun o ho=>by rw[h2] at ho;cases ho;rfl⟩
  apply List.ext_getElem?
  intro j
  rw[List.getElem?_take]
  split
  ·rename_i hj
   rw[Array.getElem?_toList]
   by_cases hjn:j < n*m
   ·have hlt:j < cur.size:=by omega
    rw[at_ j cur[j] (by rw[setCells_cell _ _ _ _ _ (.inl hjn)];exact at0 j _ (Array.getElem?_eq_getElem hlt)),List.getElem?_append_left (by omega),←h6,List.getElem?_take,if_pos hjn,Array.getElem?_toList,Array.getElem?_eq_getElem hlt]
   ·obtain⟨i,rfl⟩:∃i,j=n*m+i:=⟨j - n*m,by omega⟩
    have hi:i < us.length:=by omega
    rw[at_ _ us[i] (setCells_in b us (n*m) w (fun j hj=>hcell j (by omega)) i us[i] (List.getElem?_eq_getElem hi)),List.getElem?_append_right (by omega),hvl,Nat.add_sub_cancel_left,List.getElem?_eq_getElem hi]
  ·rename_i hj
   rw[List.getElem?_eq_none]
   rw[List.length_append,hvl,hu];omega
theorem ran_storeE(hT:TabOk P tb){o:Oper}{t:TypeId}{x y:Operand}(ho:o.op=.store t x y){a:Act}{w:World}{g:Gh}{st:St}{K:T→St→Prop}{k e:Nat}{xs:List (List V)}(hx:st.ev x=.sub k (.el e xs))(hd:Hd P X base S st a w g)(hs:semOp tb C o st K):Ran P X base S N st o a w g K:=by
 unfold semOp at hs
 rw[ho] at hs
 dsimp only at hs
 split at hs <;> try exact hs.elim
 rename_i q hq
 obtain⟨s1,s2,s3,s4,s5,s6⟩:=hT.siz hq
 rw[hx] at hs
 dsimp only at hs
 split at hs <;> try exact hs.elim
 rename_i e' hlive
 split at hs <;> try exact hs.elim
 rename_i l hl
 split at hs <;> try exact hs.elim
 rename_i hcnd
 rw[Bool.and_eq_true,Bool.and_eq_true] at hcnd
 have q1:l.length=q.1:=Nat.eq_of_beq_eq_true hcnd.1.1
 have q2:e=e':=Nat.eq_of_beq_eq_true hcnd.1.2
 have q3:e=t:=Nat.eq_of_beq_eq_true hcnd.2
 subst q2 q3
 obtain⟨hn9,hK⟩:=hs
 rw[frcAll_eq] at hK
 have hev:=hd.ev x
 rw[hx] at hev
 obtain⟨b,c,h1,h2,h3,h4,h5⟩:=hev
 obtain⟨cs,hcs,hrl⟩:=toV_rep (hd.ev y) hl
 obtain⟨n,vals,o1,o2⟩:=hd.mm.own hlive
 obtain⟨rfl,hfx⟩:=own_repF o1 h4 h5
 rw[h1] at o1
 have hul:cs.toList.length=P.cellsOf e:=by rw[hrl.length,q1,s2]
 obtain⟨g1,g2,g3,g4⟩:=own_store o1 h3 hul
 have hgr:=setCells_grown b cs.toList (xs.length*P.cellsOf e) w
 have hkb:(g.κ k).ownBlock=some b:=by rw[h1];rfl
 have hLn:∀o,g.L b o→o < xs.length*P.cellsOf e:=(o2 b hkb).1
 have hsame:Same g.L w g.L (w.setCells b (xs.length*P.cellsOf e) cs.toList):=⟨fun b' o u hL hc=>⟨hL,by
  by_cases hb:b'=b
  ·subst hb
   rw[setCells_cell _ _ _ _ _ (.inl (hLn o hL))];exact hc
  ·exact cell_grown hc hgr (fun e=>hb (Option.some.inj e))⟩,MapsK.of_grown hgr g4⟩
 obtain⟨k1,k2,k3⟩:=hd.rowK (N:=N) (some k) k e (fun k' h=>by cases h;exact hlive) (w1:=w.setCells b (xs.length*P.cellsOf e) cs.toList) (show w.grownBy _ (g.κ k).ownBlock by rw[hkb];exact hgr) g1 (.inr (.inr ⟨k,b,rfl,hkb,rfl,fun o ho=>Nat.lt_of_lt_of_le (hLn o ho) (Nat.mul_le_mul_right _ (Nat.le_succ _))⟩)) hsame
 have hrow:RepT P (w.setCells b (xs.length*P.cellsOf e) cs.toList) (g.own (fun b' o=>g.L b' o∨((Value.slice (some ⟨b,0,none⟩) (xs.length+1) c).ownBlock=some b'∧o < (xs.length+1)*P.cellsOf e)) k (.slice (some ⟨b,0,none⟩) (xs.length+1) c)) (.own k e (xs++[l])) (.slice (some ⟨b,0,none⟩) (xs.length+1) c):=by
  refine⟨repF_own g1 (by simp) ((hfx.mono k2.same).append ⟨by rw[hul];simp,fun i z hz=>?_⟩) (fun b' hb' o ho=>.inr ⟨hb',ho⟩),(g.own_eq _ _ _).symm,fun z hz=>?_⟩
  ·cases i with
   | zero=>
    simp at hz
    subst hz
    refine⟨by rw[q1,s2],?_⟩
    rw[Nat.zero_mul,List.drop_zero,List.take_of_length_le (by omega)]
    exact RepL.mono k2.same _ _ hrl
   | succ i=>simp at hz
  ·rcases List.mem_append.1 hz with hz | hz
   ·exact h5 z hz
   ·rw[List.mem_singleton.1 hz,q1,s2]
 have run:(storeVar e ⟨b,xs.length*P.cellsOf e,none⟩ (a.eval y)).run P w=.ok () (w.setCells b (xs.length*P.cellsOf e) cs.toList):=by
  unfold storeVar
  rw[hcs]
  simp only[Sem.run_bind,run_sizeOf' s1,Result.andThen_ok]
  rw[if_neg (by show ¬_;rw[←Array.length_toList];simp[Value.cells,hul];try (have:=hul;simp at this;exact this))]
  exact run_storeCells_cells (P:=P) _ _ _ 0 w (fun j hj=>by rw[Nat.add_zero];exact g2 j (by have:=hul;simp[Value.cells] at hj;simp at this;omega)) (fun j hj=>g3 _) (fun v hv=>hrl.one_vals v hv)
 have elrep:∀{τ:T} {v:Value},RepT P w g τ v→RepT P (w.setCells b (xs.length*P.cellsOf e) cs.toList) (g.own (fun b' o=>g.L b' o∨((Value.slice (some ⟨b,0,none⟩) (xs.length+1) c).ownBlock=some b'∧o < (xs.length+1)*P.cellsOf e)) k (.slice (some ⟨b,0,none⟩) (xs.length+1) c)) (elT k (.own k e (xs++[l])) τ) v:=fun {τ v} r=>by
  have sc:RepT P (w.setCells b (xs.length*P.cellsOf e) cs.toList) (g.own (fun b' o=>g.L b' o∨((Value.slice (some ⟨b,0,none⟩) (xs.length+1) c).ownBlock=some b'∧o < (xs.length+1)*P.cellsOf e)) k (.slice (some ⟨b,0,none⟩) (xs.length+1) c)) (scrK k τ) v:=scrK_rep (g:=g) (w:=w) k2.same rfl (fun i hi=>g.own_ne _ _ hi) r
  unfold elT
  split
  ·rename_i k' e2 xs2
   split
   ·rename_i hkk
    have:k'=k:=Nat.eq_of_beq_eq_true hkk
    subst this
    obtain⟨b2,c2,r1,r2,_⟩:=r
    rw[h1] at r1
    injection r1 with r1 r3 r4
    injection r1 with r1
    injection r1 with r1
    rw[r2,←r1,←r3,←r4]
    exact hrow
   ·rename_i hkk
    have hh:T.hasK k (.sub k' (.ext e2 xs2))=false:=hkk
    have he:scrK k (.sub k' (.ext e2 xs2))=.sub k' (.ext e2 xs2):=by
     unfold scrK
     dsimp only
     rw[hh]
    rw[he] at sc
    exact sc
  ·exact sc
 have hKK:∀i,isK (scrBs (elT k (.own k e (xs++[l]))) st.bs) i→isK (st.rowK (some k) k e).bs i:=fun i hi=>(isK_scr (scrK k) (scrBs (scrK k) st.bs) i).2 ((isK_scr (scrK k) st.bs i).2 ((isK_scr _ _ i).1 hi))
 refine⟨.skip,undef,_,.un,_,_,?_,.inr ⟨rfl,rfl⟩,hK,trivial,⟨hd.sz,fun tt=>?_,⟨fun {i ds} hi {j d} hj=>?_,fun hi=>k1.mm.frz (hKK _ hi),fun hi=>k1.mm.bxL (hKK _ hi),fun hi=>k1.mm.bxE (hKK _ hi),fun hi=>k1.mm.loc (hKK _ hi),fun hi=>k1.mm.lt (hKK _ hi),fun hi hj=>k1.mm.inj (hKK _ hi) (hKK _ hj),fun hk=>let ⟨n,vals,p1,p2⟩:=k1.mm.own hk;⟨n,vals,p1,fun b hb=>⟨(p2 b hb).1,fun i hi=>(p2 b hb).2 i (hKK i hi)⟩⟩,k1.mm.ownInj,k1.mm.Lc,fun hi=>k1.mm.bc (hKK _ hi),k1.mm.ownE⟩,k1.E,k1.le⟩,k2,k3.b⟩
 ·unfold execOp
  simp only[ho,h2,Instr.storeAt,Instr.sureAddr,Sem.run_bind,Sem.run_pure,Result.andThen_ok,run]
 ·show RepT P _ _ (tget (scrEnv (elT k (.own k e (xs++[l]))) st.env) tt) _
  rw[tget_scr rfl]
  exact elrep (hd.env tt)
 ·rw[lk_scrBs] at hi
  obtain⟨ds0,hi0,rfl⟩:=Option.map_eq_some_iff.1 hi
  rw[List.getElem?_map] at hj
  obtain⟨d0,hj0,rfl⟩:=Option.map_eq_some_iff.1 hj
  obtain⟨u,hu,hru,hou⟩:=hd.mm.box hi0 hj0
  have hne:(g.ρ i).1≠b:=(o2 b hkb).2 i (by unfold isK;rw[hi0];rfl)
  exact⟨u,cell_grown hu hgr (fun e=>hne (Option.some.inj e)),elrep hru,hou⟩
theorem ran_append(hT:TabOk P tb){o:Oper}{c:Call}(ho:o.op=.call c)(hb:c.callee=.builtin .append){a:Act}{w:World}{g:Gh}{st:St}{K:T→St→Prop}(hd:Hd P X base S st a w g)(hs:semOp tb C o st K):Ran P X base S N st o a w g K:=by
 unfold semOp at hs
 rw[ho] at hs
 dsimp only at hs
 rw[hb] at hs
 dsimp only at hs
 split at hs <;> try exact hs.elim
 rename_i d hdst
 split at hs <;> try exact hs.elim
 rename_i s x t t' hx ht
 have hx':c.args=#[s,x]:=by rw[←Array.toArray_toList (xs:=c.args),hx]
 have ht':c.argTypes=#[t,t']:=by rw[←Array.toArray_toList (xs:=c.argTypes),ht]
 split at hs <;> try exact hs.elim
 rename_i e hbt he
 have htt:t=t':=Nat.eq_of_beq_eq_true hbt
 subst htt
 split at hs <;> try exact hs.elim
 rename_i q hq
 obtain⟨s1,s2,s3,s4,s5,s6⟩:=hT.siz hq
 split at hs <;> try exact hs.elim
 rename_i ys hys
 have hsrc:=toV_rep (hd.ev x) hys
 have run:∀v' w1,(Builtin.append_ #[t,t] o.type #[a.eval s,a.eval x]).run P w=.ok v' w1→(execOp a.eval o).run P w=.ok (.value v') w1:=fun v' w1 hr=>by
  unfold execOp
  simp[ho,resolve,hb,hx',ht',invoke,builtin,hr]
 have hev:=hd.ev s
 split at hs <;> try exact hs.elim
 ·rename_i hsv
  cases helm:tb.elm
  rotate_left
  ·rw[helm] at hs
   obtain⟨hy1,hlen,hK⟩:=hs
   rw[frcAll_eq] at hK
   rw[hsv] at hev
   have hev':a.eval s=.slice none 0 0:=hev
   have hown:=World.ownsRow_nil w base e q.1
   obtain⟨v',w1,news,r1,r2,r3,r5,hf⟩:=append_run hT he hq hown hsrc hlen (by omega) hd.le o.type
   have hbel:Below w.heap.size w w1:=⟨r3.os,r3.tape,r3.output,r3.size,fun i hi=>r3.block i hi (by simp[Value.ownBlock])⟩
   rw[List.nil_append,←s2,hy1] at r2
   obtain⟨bb,cap,hv',hcap,hpre⟩:=own_pre r2
   rw[Nat.zero_mul,List.take_zero] at hpre
   have hob:v'.ownBlock=some bb:=by rw[hv'];rfl
   obtain⟨h1,h2,htm⟩:=hd.rowK (N:=N) none d e (fun k h=>by cases h) (w1:=w1) (grown_of_below hbel _) hpre (by
    rcases r5 with h | h
    ·rw[hob] at h;cases h
    ·exact .inr (.inl (by rw[←h.1,hob];rfl))) (Same.of_below hbel)
   exact⟨.value v',v',w1,.sub d (.ext e []),_,_,run _ _ (by rw[hev'];exact r1),.inl rfl,hK,⟨bb,cap,g.own_eq _ _ _,hv',hcap,by rw[g.own_eq];exact⟨_,cap,rfl,Nat.zero_le _,fun h=>absurd rfl h⟩,fun x hx=>by cases hx⟩,h1,h2,htm.b⟩
  rw[helm] at hs
  obtain⟨hsz,hlen,hK⟩:=hs
  rw[frcAll_eq] at hK
  rw[hsv] at hev
  have hev':a.eval s=.slice none 0 0:=hev
  have hown:=World.ownsRow_nil w base e q.1
  obtain⟨v',w1,news,r1,r2,r3,r5,hf⟩:=append_run hT he hq hown hsrc hlen (by omega) hd.le o.type
  have hbel:Below w.heap.size w w1:=⟨r3.os,r3.tape,r3.output,r3.size,fun i hi=>r3.block i hi (by simp[Value.ownBlock])⟩
  rw[Nat.zero_add,List.nil_append,←s2] at r2
  obtain⟨h1,h2,htm⟩:=hd.rowK (N:=N) none d e (fun k h=>by cases h) (w1:=w1) (grown_of_below hbel _) r2 (by rcases r5 with h | h;exact .inl h;exact .inr (.inl h.1)) (Same.of_below hbel)
  refine⟨.value v',v',w1,.own d e ys,_,_,run _ _ (by rw[hev'];exact r1),.inl rfl,hK,⟨?_,(g.own_eq _ _ _).symm,fun c hc=>by rw[s2];exact hlen c hc⟩,h1,h2,htm.b⟩
  refine repF_own r2 rfl ?_ fun b hb o ho'=>.inr ⟨hb,ho'⟩
  have h3:=hf.mono h2.same
  rw[←s2] at h3
  exact h3
 ·rename_i k e' xs hsv
  split at hs <;> try exact hs.elim
  rename_i e'' hlive
  split at hs <;> try exact hs.elim
  rename_i hee
  rw[Bool.and_eq_true] at hee
  have hee':e=e'':=Nat.eq_of_beq_eq_true hee.1
  subst hee'
  have hee2:e=e':=Nat.eq_of_beq_eq_true hee.2
  subst hee2
  cases helm:tb.elm
  rotate_left
  ·rw[helm] at hs
   obtain⟨hy1,hsz,hlen,hK⟩:=hs
   rw[frcAll_eq] at hK
   rw[hsv] at hev
   obtain⟨hev1,hev2,hev3⟩:=hev
   obtain⟨n,vals,o1,o2⟩:=hd.mm.own hlive
   have hxl:∀c∈xs,c.length=P.cellsOf e:=hev3
   rw[hev2] at hev1
   obtain⟨rfl,hfx⟩:=own_repF o1 hev1 hxl
   rw[s2] at o1
   obtain⟨v',w1,news,r1,r2,r3,r5,hf⟩:=append_run hT he hq o1 hsrc hlen (by omega) hd.le o.type
   rw[←s2] at r2 o1
   have hsame:=append_same o1 r2 r3 r5 (fun b hb=>(o2 b hb).1)
   rw[hy1] at r2
   obtain⟨bb,cap,hv',hcap,hpre⟩:=own_pre r2
   rw[←o1.1,List.take_left] at hpre
   have hob:v'.ownBlock=some bb:=by rw[hv'];rfl
   obtain⟨h1,h2,htm⟩:=hd.rowK (N:=N) (some k) d e (fun k' h=>by cases h;exact hlive) (w1:=w1) r3 hpre (by
    rcases r5 with h | h
    ·rw[hob] at h
     exact .inr (.inr ⟨k,bb,rfl,h.symm,rfl,fun o ho'=>(o2 bb h.symm).1 o ho'⟩)
    ·exact .inr (.inl (by rw[←h.1,hob];rfl))) hsame
   refine⟨.value v',v',w1,.sub d (.ext e xs),_,_,run _ _ (by rw[hev2];exact r1),.inl rfl,hK,⟨bb,cap,g.own_eq _ _ _,hv',hcap,?_,hxl⟩,h1,h2,htm.b⟩
   rw[g.own_eq]
   exact repF_own hpre rfl (hfx.mono h2.same) fun b hb o ho'=>.inr ⟨hb,ho'⟩
  rw[helm] at hs
  obtain⟨hsz,hlen,zs,rfl,hK⟩:=hs
  rw[frcAll_eq] at hK
  rw[hsv] at hev
  obtain⟨hev1,hev2,hev3⟩:=hev
  obtain⟨n,vals,o1,o2⟩:=hd.mm.own hlive
  have hxl:∀c∈xs,c.length=P.cellsOf e:=hev3
  rw[hev2] at hev1
  obtain⟨rfl,hfx⟩:=own_repF o1 hev1 hxl
  rw[s2] at o1
  obtain⟨v',w1,news,r1,r2,r3,r5,hf⟩:=append_run hT he hq o1 hsrc hlen hsz hd.le o.type
  rw[←s2] at r2 o1
  have hsame:=append_same o1 r2 r3 r5 (fun b hb=>(o2 b hb).1)
  obtain⟨h1,h2,htm⟩:=hd.rowK (N:=N) (some k) d e (fun k' h=>by cases h;exact hlive) (w1:=w1) r3 r2 (by
   rcases r5 with h | h
   ·cases hkb:(g.κ k).ownBlock with
    | none=>exact .inl (h.trans hkb)
    | some b=>exact .inr (.inr ⟨k,b,rfl,hkb,h.trans hkb,fun o ho'=>Nat.lt_of_lt_of_le ((o2 b hkb).1 o ho') (Nat.mul_le_mul_right _ (Nat.le_add_right _ _))⟩)
   ·exact .inr (.inl h.1)) hsame
  refine⟨.value v',v',w1,.own d e (xs++ys),_,_,run _ _ (by rw[hev2];exact r1),.inl rfl,hK,⟨?_,(g.own_eq _ _ _).symm,fun c hc=>?_⟩,h1,h2,htm.b⟩
  ·refine repF_own r2 (by rw[List.length_append]) ?_ fun b hb o ho'=>.inr ⟨hb,ho'⟩
   have h3:=hf.mono h2.same
   rw[←s2] at h3
   exact(hfx.mono h2.same).append h3
  ·rcases List.mem_append.1 hc with hc | hc
   ·exact hxl c hc
   ·rw[s2];exact hlen c hc
end Go.Proofs.YtknelogmocedeaaGreatDoor
