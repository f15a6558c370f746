/- The walk without memory is right: pieces of code, ranges over functions too. Whatever program. -/
import Derived.Test.YtknelogmocedeaaGreatDoorR09
namespace Go.Proofs.YtknelogmocedeaaGreatDoor
open Go.RowKit
set_option linter.unusedVariables false
variable {P : Program} {tb : Tab}
theorem out_of{X:En}{base N:Nat}{S:Nat→Prop}{Wr:Nat→Prop}{a:Act}{w:World}{g:Gh}{Q:Exit→St→Prop}{e:Exit}{st:St}(h:Q e st)(hd:Hd P X base S st a w g)(hn:st.n=N):AftR P X base S N Wr a w g Q e a w:=
 ⟨st,g,h,hd,Stp.refl _ _ _ _ _ _,hn,fun _ _=>rfl,[],rfl,MarksOk.nil _ _⟩
theorem puts_n(ps:List Nat)(vs:List V)(st:St):(st.puts ps vs).n=st.n:=by cases st;rfl
def Behind(P:Program)(X:En)(base:Nat)(S:Nat→Prop)(N:Nat)(a:Act)(w:World)(g:Gh)(lw:Nat)(mk:Option Nat)(C:Nat→Prop)(l:Nat)(r:Rng.Rec)(Q:Exit→St→Prop)(W:World):Prop:=
 ∃st pe,st≠ .busy∧W.heap[l]? =some (r.at st pe)∧∃(st':St) (g':Gh) (Z:Nat→Prop),RunJ P X base S N a w g lw mk C st' Z W g'∧((pe=none∧Q .normal st')∨∃e,codeOf e=pe∧pe.isSome=true∧Q e st')
theorem range_run{X X0:En}{base N:Nat}{S:Nat→Prop}(hX:X.Le X0){st:St}{a:Act}{w w1:World}{g:Gh}{Q:Exit→St→Prop}{f:FuncId}{caps:List T}{cs:Array Value}{css:List (List T)}{ys:List (List V)}{css':List (List T)}{I:Nat→St}{inv:Nat→Prop}{ps:Array Tmp}{x y:Code}{gc:Gh}{gI:Gh}{stE:St}
  (hIt:ItM P X0 f css caps ys css') (hgL:gc.L=g.L) (hmem:MemB P X0 w gc css) (hcaps:∀w1,Below w.heap.size w w1→RepTs P w1 gc caps cs.toList) (hd:Hd P X base S st a w g) (hn:st.n=N) (hi0:inv 0) (hgI:gI.L=g.L∧gI.ρ=g.ρ) (hw0:Hd P X base S (I 0) a w gI) (hnI:(I 0).n=N) (hend:inv ys.length→Q .normal stE)
  (hC:∀b,inB gc css.length b→((S b∨base≤b)∧b < w.heap.size∧∃c t fr,w.heap[b]? =some (.cells c t fr))∧¬X.Eb b) (hC1:∀i,isK (I 0).bs i→¬inB gc css.length (gI.ρ i).1) (hC2:∀k e b,lget (I 0).lv k=some e→(gI.κ k).ownBlock=some b→¬inB gc css.length b)
  (hfree:∀i,freeE (ps.toList++(codeW x++codeW y)) (I i).env=true) (hps:∀p∈ps.toList,p < st.n) (hlen:∀(i:Nat) (v:List V),ys[i]? =some v→inv i→v.length=ps.size)
  {l:Nat} {mk:Option Nat} {fn:FuncId} {dn:Nat}
  (hre:∀(lw:Nat) (Z:Nat→Prop) (W:World) (g':Gh) (L':Lv),base≤lw→RunJ P X base S N a w g lw mk (inB gc css.length) (I ys.length) Z W g'→(∀{b o},g.L b o→g'.L b o)→(∀b,inB gc css.length b→Z b)→(∀{b o},L' b o→g.L b o∨Z b)→(∀{b o},L' b o→∃u,W.cell? ⟨b,o,none⟩=some u)→MemB P X0 W {gc with L:=L'} css'→∃g'',RunJ P X base S N a w g lw mk (inB gc css.length) stE (fun _=>False) W g'')
  (hb:Below w.heap.size w w1) (hnm:∀(k:Nat) (o:Obj),w1.heap[k]? =some o→isMapO o=true→w.heap[k]? =some o) (hrec:w1.heap[l]? =some (Rng.Rec.at ⟨fn,a.tmps,ps,x,y,dn⟩ .ready none)) (hlw:w.heap.size≤l) (hmk:∀r,mk=some r→w.heap.size≤r∧r≠l∧w1.heap[r]? =some (.deferred (some [])))
  (hx:∀(X':En),X'.Le X0→∀(i:Nat) (v:List V),ys[i]? =some v→inv i→∀(a1:Act) (W:World) (g1:Gh),Hd P X' base S ((I i).puts ps.toList v) a1 W g1→((I i).puts ps.toList v).n=N→(∃r,W.heap[l]? =some (.loop r))→
   x.wpIn (Fence.wide.inRound l) 0 P (AftR P X' base S N (· ∈ps.toList++(codeW x++codeW y)) a1 W g1 (seqQ (fun st'=>aCode P X0 tb y (rndQ (ps.toList++(codeW x++codeW y)) (inv (i+1)) (I (i+1)) Q) st') (fun _ _=>False))) a1 W)
  (hy:∀(X':En),X'.Le X0→∀(i:Nat) (st1:St) (a1:Act) (W:World) (g1:Gh),aCode P X0 tb y (rndQ (ps.toList++(codeW x++codeW y)) (inv (i+1)) (I (i+1)) Q) st1→Hd P X' base S st1 a1 W g1→st1.n=N→(∃r,W.heap[l]? =some (.loop r))→
   y.wpIn (Fence.wide.inRound l) 0 P (AftR P X' base S N (· ∈ps.toList++(codeW x++codeW y)) a1 W g1 (rndQ (ps.toList++(codeW x++codeW y)) (inv (i+1)) (I (i+1)) Q)) a1 W):
  Calls P f (#[.func (.yield l) #[] #[]]++cs) w1 fun e W'=>(∃v,e=.returned v)∧Behind P X base S N a w g w1.heap.size mk (inB gc css.length) l ⟨fn,a.tmps,ps,x,y,dn⟩ Q W':=by
 have hll:l < w1.heap.size:=(Array.getElem?_eq_some_iff.1 hrec).1
 have hwl:w.heap.size≤w1.heap.size:=hb.size
 have hle:=hd.le
 obtain⟨gI1,gI2⟩:=hgI
 have hs1:Same g.L w g.L w1:=Same.of_below hb
 have hlE:¬X.Eb l:=fun hE=>by have:=X.lt hd.E hE;omega
 have hput:∀{st:St} {a':Act} {W:World} {g':Gh} {X':En} (o:Obj),Hd P X' base S st a' W g'→(∃r,W.heap[l]? =some (.loop r))→¬X'.Eb l→Hd P X' base S st a' (W.putObj l o) g':=fun {st a' W g' X'} o h ⟨r,hr⟩ hE=>by
  refine h.upd (putObj_upd W l o) (.putObj hr rfl) (fun i hi e=>?_) (fun {b o} hL e=>?_) (fun k e b hk hbk eb=>?_) (fun b hbl=>by subst hbl;exact hE)
  ·obtain⟨c,t,fr,hc⟩:=h.mm.bc hi
   rw[e,hr] at hc;cases hc
  ·obtain⟨u,hu⟩:=h.mm.Lc hL
   unfold World.cell? at hu
   dsimp only at hu
   rw[e,hr] at hu;cases hu
  ·obtain⟨n0,vals,o1,_⟩:=h.mm.own hk
   rcases o1.2 with⟨h0,_⟩ | ⟨gg,cap,cur,h0,_,h1,_⟩
   ·rw[h0] at hbk;cases hbk
   ·rw[h0] at hbk;cases hbk;dsimp only at eb;rw[eb,hr] at h1;cases h1
 have hJ0:RunJ P X base S N a w g w1.heap.size mk (inB gc css.length) (I 0) (inB gc css.length) w1 gI:=by
  refine⟨hw0.upd (Upd.of_below (S:=fun _=>False) hb) (.of_below hb) (fun _ _ h=>h) (fun _ h=>h) (fun _ _ _ _ _ h=>h) (fun _ h=>h.elim),hnI,⟨Upd.of_below hb,by rw[gI1];exact hs1,fun h=>.inl (by rw[←gI1];exact h),fun _=>by rw[gI2],fun hk _=>(hb.block _ (Array.getElem?_eq_some_iff.1 hk).1).trans hk⟩,Nat.le_refl _,fun r hr=>?_,hC1,fun {b o} h=>?_,hC2,fun b h=>⟨⟨.inr h,Nat.lt_of_lt_of_le (hC b h).1.2.1 hwl⟩,(hC b h).2⟩,fun b h=>(hC b h).1⟩
  rotate_left
  ·rintro⟨j,hj,rfl⟩
   exact hmem.bxL hj o (by rw[hgL,←gI1];exact h)
  obtain⟨m1,m2,m3⟩:=hmk r hr
  exact⟨m1,(Array.getElem?_eq_some_iff.1 m3).1,m3⟩
 have nl:∀{st'} {Z:Nat→Prop} {W:World} {g':Gh},RunJ P X base S N a w g w1.heap.size mk (inB gc css.length) st' Z W g'→¬Z l:=fun hj hz=>by
  rcases(hj.from_ l hz).1.1 with h | h
  ·omega
  ·have:=(hC l h).1.2.1;omega
 refine(hIt.2 l gc cs.toList w1 (fun m Z W=>match m with
   | some i=>inv i∧∃g',RunJ P X base S N a w g w1.heap.size mk (inB gc css.length) (I i) Z W g'∧W.heap[l]? =some (Rng.Rec.at ⟨fn,a.tmps,ps,x,y,dn⟩ .ready none)∧(∀{b o},g.L b o→g'.L b o)
   | none=>∃e st' g',RunJ P X base S N a w g w1.heap.size mk (inB gc css.length) st' Z W g'∧W.heap[l]? =some (Rng.Rec.at ⟨fn,a.tmps,ps,x,y,dn⟩ .done (codeOf e))∧(codeOf e).isSome=true∧Q e st')
  (hX.e _ (hJ0.hd.E)) (fun {b o} hL=>?_) (hmem.below hb) (hcaps w1 hb) ⟨hi0,gI,hJ0,hrec,fun h=>by rw[gI1];exact h⟩ ?_ ?_ ?_ ?_).mono ?_
 ·obtain⟨u,hu⟩:=hd.mm.Lc (by rw[←hgL];exact hL)
  exact⟨u,cell_below hu hb⟩
 ·rintro(_ | i) Z W W' h hu hmk
  ·obtain⟨e,st',g',hj,hr,hc,hq⟩:=h
   exact⟨e,st',g',hj.upd (Nat.le_trans hle hwl) hwl hu hmk,hu.blk hr (nl hj),hc,hq⟩
  ·obtain⟨hi,g',hj,hr,hL⟩:=h
   exact⟨hi,g',hj.upd (Nat.le_trans hle hwl) hwl hu hmk,hu.blk hr (nl hj),hL⟩
 ·have less:∀{st'} {Z Z':Nat→Prop} {W:World} {g':Gh},RunJ P X base S N a w g w1.heap.size mk (inB gc css.length) st' Z W g'→(∀b,Z' b→Z b)→RunJ P X base S N a w g w1.heap.size mk (inB gc css.length) st' Z' W g':=fun hj hz=>⟨hj.hd,hj.n,hj.stp,hj.lwle,hj.mark,fun i hi h=>hj.box i hi (hz _ h),fun hL h=>hj.see hL (hz _ h),fun k e b hk hb h=>hj.own k e b hk hb (hz _ h),fun b hb=>hj.from_ b (hz b hb),hj.cC⟩
  rintro(_ | i) Z Z' W h hz
  ·obtain⟨e,st',g',hj,hr,hc,hq⟩:=h
   exact⟨e,st',g',less hj hz,hr,hc,hq⟩
  ·obtain⟨hi,g',hj,hr,hL⟩:=h
   exact⟨hi,g',less hj hz,hr,hL⟩
 ·have prop:∀{st'} {Z:Nat→Prop} {W:World} {g':Gh},RunJ P X base S N a w g w1.heap.size mk (inB gc css.length) st' Z W g'→X0.E W∧Same gc.L w1 gc.L W∧w1.heap.size≤W.heap.size∧(∀b,Z b→(w1.heap.size≤b∨inB gc css.length b)∧b < W.heap.size):=fun {st' Z W g'} hj=>by
   rw[hgL]
   refine⟨hX.e _ hj.hd.E,⟨fun b o u h1 h2=>⟨h1,?_⟩,fun k o h1 h2=>hj.stp.same.m k o (hnm k o h1 h2) h2⟩,hj.lwle,fun b hb=>(hj.from_ b hb).1⟩
   obtain⟨u0,hu0⟩:=hd.mm.Lc h1
   have h3:=cell_below hu0 hb
   rw[h2] at h3
   rw[(hj.stp.same.c b o u0 h1 hu0).2,h3]
  rintro(_ | i) Z W h
  ·obtain⟨e,st',g',hj,hr,hc,hq⟩:=h
   exact prop hj
  ·obtain⟨hi,g',hj,hr,hL⟩:=h
   exact prop hj
 ·-- a round
  rintro i v Z Z' W L' args hv ⟨hi,g',hj,hr,hL⟩ hra hsub hZ' hdis
  rw[hgL] at hsub
  have hal:=hra.length
  have hvl:=hlen i v hv hi
  have hyr:=run_yield (P:=P) (w:=W) (l:=l) (args:=args.toArray) hr (by show args.toArray.size=ps.size;rw[List.size_toArray,hal,hvl])
  have hargs:(ps.zip args.toArray).foldl (fun tmps (t,a)=>tmps.setIfInBounds t a) a.tmps=(ps.toList.zip args).foldl (fun t (p:Nat×Value)=>t.setIfInBounds p.1 p.2) a.tmps:=by
   rw[←Array.foldl_toList,Array.toList_zip]
  refine⟨_,_,_,_,hyr,?_⟩
  have hlZ:¬Z l:=nl hj
  have hsee:Hd P X base S (I i) a W {g' with L:=fun b o=>g'.L b o∨(L' b o∧∃u,W.cell? ⟨b,o,none⟩=some u)}:=by
   refine hj.hd.see .inl (fun {q} hq o=>?_) (fun k e b o hk hbk h=>?_) (fun {b o} h=>?_)
   ·rintro(h | ⟨h,_⟩)
    ·exact hj.hd.mm.bxL hq o h
    ·rcases hsub h with h | ⟨h,_⟩
     ·exact hj.hd.mm.bxL hq o (hL h)
     ·exact hj.box q hq h
   ·rcases h with h | ⟨h,_⟩
    ·exact h
    ·rcases hsub h with h | ⟨h,_⟩
     ·exact hL h
     ·exact absurd h (hj.own k e b hk hbk)
   ·rcases h with h | ⟨_,h⟩
    ·exact hj.hd.mm.Lc h
    ·exact h
  generalize hLg:(fun b o=>g'.L b o∨(L' b o∧∃u,W.cell? ⟨b,o,none⟩=some u):Lv)=Lg at hsee
  have hLgi:∀{b o},Lg b o→g'.L b o∨L' b o:=fun {b o} h=>by rw[←hLg] at h;exact h.imp id And.left
  have hLgl:∀{b o},g'.L b o→Lg b o:=fun {b o} h=>by rw[←hLg];exact .inl h
  have hraG:RepW W Lg v args:=RepW.mono ⟨fun b o u h1 h2=>⟨by rw[←hLg];exact .inr ⟨h1,u,h2⟩,h2⟩,.refl _⟩ _ _ hra
  have hZ'lt:∀b,Z' b→b < W.heap.size:=fun b hb=>(hj.from_ b (hZ' b hb)).1.2
  have hp:=hsee.plus (Z:=Z') hZ'lt (fun q hq h=>hj.box q hq (hZ' _ h)) (fun k e b hk hbk h=>hj.own k e b hk hbk (hZ' _ h))
  have hX2:(X.plus Z' W).Le X0:=⟨fun w h=>hX.e w h.1,fun b h=>.inl (hX.b b h)⟩
  have hlE2:¬(X.plus Z' W).Eb l:=fun h=>h.elim hlE (fun h=>hlZ (hZ' _ h))
  have hpu2:=Hd.puts (a:=a) ps.toList v args (I i) a hp (fun p hp'=>Nat.lt_of_lt_of_eq (hps p hp') (hn.trans hj.n.symm)) (by rw[hvl];simp) hraG
  rw[hargs]
  generalize hA:(ps.toList.zip args).foldl (fun t (p:Nat×Value)=>t.setIfInBounds p.1 p.2) a.tmps=A at hpu2 ⊢
  have hAk:∀t,t∉ps.toList++(codeW x++codeW y)→A.getD t undef=a.tmps.getD t undef:=fun t ht=>by
   rw[←hA]
   refine foldl_keep _ _ _ fun p hp' e=>ht (List.mem_append_left _ ?_)
   rw[←e]
   exact(List.of_mem_zip hp').1
  have hAs:A.size=a.tmps.size:=by rw[←hA];exact foldl_size _ _
  refine Rng.round hr (wpIn_mono (hx _ hX2 i v hv hi {tmps:=A,defers:=[]} W _ ⟨hpu2.sz,hpu2.env,hpu2.mm,hpu2.E,hpu2.le⟩ ((puts_n _ _ _).trans hj.n) ⟨_,hr⟩) ?_)
  rintro e a1 W1 ⟨st1,g3,q1,q2,q3,q4,q5,ms,q6,q7⟩
  cases e with
  | exit j=>exact q1.elim
  | goto j=>exact q1.elim
  | ret=>exact q1.elim
  | panic c=>exact q1.elim
  | outgrown=>exact q1.elim
  | normal=>
   have hr1:=q3.obj hr rfl
   have hl1:l < W1.heap.size:=(Array.getElem?_eq_some_iff.1 hr1).1
   refine⟨hr1,wpIn_mono (hy _ hX2 i st1 a1 _ g3 q1 (hput (Rng.Rec.at ⟨fn,a.tmps,ps,x,y,dn⟩ .busy none) q2 ⟨_,hr1⟩ hlE2) q4 ⟨_,World.putObj_heap_same hl1⟩) ?_⟩
   rintro e a3 W3 ⟨st3,g4,p1,p2,p3,p4,p5,ms',p6,p7⟩
   have hr3:=p3.obj (World.putObj_heap_same hl1 (o:=Rng.Rec.at ⟨fn,a.tmps,ps,x,y,dn⟩ .busy none)) rfl
   have hl3:l < W3.heap.size:=(Array.getElem?_eq_some_iff.1 hr3).1
   have cellP:∀{W:World} {o:Obj} {b q:Nat} {u:Value},(∃r,W.heap[l]? =some (.loop r))→W.cell? ⟨b,q,none⟩=some u→(W.putObj l o).cell? ⟨b,q,none⟩=some u:=fun {W o b q u} ⟨r,hr⟩ hc=>by
    by_cases hbl:b=l
    ·subst hbl
     unfold World.cell? at hc
     rw[hr] at hc;cases hc
    ·rw[cell_old (World.putObj_heap_other hbl)];exact hc
   have mk1:∀o,MapsK W (W3.putObj l o):=fun o=>((q3.same.m.trans (.putObj hr1 rfl)).trans p3.same.m).trans (.putObj hr3 rfl)
   have sameAll:∀o,Same g.L w g4.L (W3.putObj l o):=fun o=>⟨fun b q u h1 h2=>by
    obtain⟨c1,c2⟩:=hj.stp.same.c b q u h1 h2
    obtain⟨c3,c4⟩:=q3.same.c b q u (hLgl c1) c2
    obtain⟨c5,c6⟩:=p3.same.c b q u c3 (cellP ⟨_,hr1⟩ c4)
    exact⟨c5,cellP ⟨_,hr3⟩ c6⟩,hj.stp.same.m.trans (mk1 o)⟩
   have updP:∀(W:World) (o:Obj),Upd (fun b=>S b∨base≤b) W (W.putObj l o):=fun W o=>(putObj_upd W l o).mono fun b hb=>.inr (by omega)
   have behind:∀(σ:List (Nat×Option Nat)) (st4:St) (o:Obj),Wk σ st3 st4→freeE (ps.toList++(codeW x++codeW y)) st4.env=true→RunJ P X base S N a w g w1.heap.size mk (inB gc css.length) st4 Z' (W3.putObj l o) (g4.ren σ)∧Upd (fun b=>¬Z' b) W (W3.putObj l o):=fun σ st4 o hw hf=>by
    obtain⟨i1,i2⟩:=p2.wk (N:=N) hw
    have i3:Hd P (X.plus Z' W) base S st4 a W3 (g4.ren σ):=i1.act (a':=a) hf (by have e1:=i1.sz;have e2:=hd.sz;have e3:=hw.1;omega) (fun t ht=>by
     have e1:=p5 t ht
     have e2:=q5 t ht
     have e3:=hAk t ht
     rw[e1,e2]
     exact e3.symm)
    have i4:=hput o i3 ⟨_,hr3⟩ hlE2
    refine⟨⟨i4.minus,hw.1.trans p4,⟨?_,sameAll o,fun {b q} h=>?_,fun {k} hk=>?_,fun {k o'} hk hc=>?_⟩,?_,fun r hrm=>?_,fun q hq h=>i4.mm.bxE hq (.inr h),fun {b q} h hz=>?_,fun k e b hk hbk h=>i4.mm.ownE hk hbk (.inr h),fun b hb=>?_,hj.cC⟩,?_⟩
    ·exact(((hj.stp.upd.trans q3.upd).trans (updP _ _)).trans p3.upd).trans (updP _ _)
    ·rcases p3.newL h with h | ⟨h,hE⟩
     ·rcases q3.newL h with h | ⟨h,hE⟩
      ·rcases hLgi h with h | h
       ·exact hj.stp.newL h
       ·rcases hsub h with h | ⟨h,hc⟩
        ·exact .inl h
        ·exact .inr ⟨Nat.le_trans hle (Nat.le_trans hwl ((hj.from_ b h).1.1.resolve_right hc)),(hj.from_ b h).2⟩
      ·exact .inr ⟨h,fun h'=>hE (.inl h')⟩
     ·exact .inr ⟨h,fun h'=>hE (.inl h')⟩
    ·exact(p3.rho hk).trans ((q3.rho hk).trans (hj.stp.rho hk))
    ·have hkl:k≠l:=fun e=>by have:=(Array.getElem?_eq_some_iff.1 hk).1;omega
     rw[World.putObj_heap_other hkl]
     exact p3.obj (by rw[World.putObj_heap_other hkl];exact q3.obj (hj.stp.obj hk hc) hc) hc
    ·rw[World.putObj_size]
     have s1:=hj.lwle
     have s2:=q3.upd.size
     have s3:=p3.upd.size
     rw[World.putObj_size] at s3
     omega
    ·obtain⟨m1,m2,m3⟩:=hj.mark r hrm
     have hrl:r≠l:=fun e=>by rw[e,hr] at m3;cases m3
     refine⟨m1,m2,?_⟩
     rw[World.putObj_heap_other hrl]
     exact p3.obj (by rw[World.putObj_heap_other hrl];exact q3.obj m3 rfl) rfl
    ·rcases p3.newL h with h | ⟨_,hE⟩
     ·rcases q3.newL h with h | ⟨_,hE⟩
      ·rcases hLgi h with h | h
       ·exact hj.see h (hZ' _ hz)
       ·exact hdis h hz
      ·exact hE (.inr hz)
     ·exact hE (.inr hz)
    ·have h1:=hj.from_ b (hZ' b hb)
     have s2:=q3.upd.size
     have s3:=p3.upd.size
     rw[World.putObj_size] at s3
     exact⟨⟨h1.1.1,by rw[World.putObj_size];omega⟩,h1.2⟩
    ·have u1:=(q3.upd.trans (updP W1 (Rng.Rec.at ⟨fn,a.tmps,ps,x,y,dn⟩ .busy none))).trans (p3.upd.trans (updP W3 o))
     exact⟨u1.os,u1.tape,u1.output,u1.size,fun b hb hz=>by
      have hz':Z' b:=Classical.not_not.1 hz
      have hbl:b≠l:=fun e=>hlZ (by rw[←e];exact hZ' _ hz')
      rw[World.putObj_heap_other hbl]
      exact(p2.E.2 b hz').1⟩
   refine⟨hr3,?_⟩
   cases e with
   | normal=>
    obtain⟨hi1,σ,hw⟩:=p1
    obtain⟨b1,b2⟩:=behind σ _ (Rng.Rec.at ⟨fn,a.tmps,ps,x,y,dn⟩ .ready none) hw (hfree (i+1))
    refine⟨⟨b2,mk1 _⟩,.inl ⟨rfl,hi1,g4.ren σ,b1,World.putObj_heap_same hl3,fun {b q} h=>?_⟩⟩
    obtain⟨u,hu⟩:=hd.mm.Lc h
    exact((sameAll (Rng.Rec.at ⟨fn,a.tmps,ps,x,y,dn⟩ .ready none)).c b q u h hu).1
   | exit j=>
    obtain⟨σ,st',hw,hf,hq⟩:=p1
    exact⟨⟨(behind σ st' _ hw hf).2,mk1 _⟩,.inr ⟨rfl,.exit j,st',g4.ren σ,(behind σ st' _ hw hf).1,World.putObj_heap_same hl3,rfl,hq⟩⟩
   | ret=>
    obtain⟨σ,st',hw,hf,hq⟩:=p1
    exact⟨⟨(behind σ st' _ hw hf).2,mk1 _⟩,.inr ⟨rfl,.ret,st',g4.ren σ,(behind σ st' _ hw hf).1,World.putObj_heap_same hl3,rfl,hq⟩⟩
   | goto j=>exact p1.elim
   | panic c=>exact p1.elim
   | outgrown=>exact p1.elim
 ·rintro e W' ⟨hv,h⟩
  refine⟨hv,?_⟩
  rcases h with⟨Z,L',⟨hi,g',hj,hr,hL⟩,r1,r2,r3,r4⟩ | ⟨Z,e',st',g',hj,hr,hc,hq⟩
  ·obtain⟨g'',h2⟩:=hre _ Z W' g' L' (Nat.le_trans hle hwl) hj hL r1 (by rw[←hgL];exact r2) r3 r4
   exact⟨.ready,none,by simp,hr,stE,g'',_,h2,.inl ⟨rfl,hend hi⟩⟩
  ·exact⟨.done,codeOf e',by simp,hr,st',g',Z,hj,.inr ⟨e',rfl,hc,hq⟩⟩
theorem wrapped_none{c:Code}{e:Exit}(h:codeOf e=some c):(c=.ret∧e=.ret)∨∃j,c=.exit j∧e=.exit j:=by
 cases e <;> first | (cases h;exact .inl ⟨rfl,rfl⟩) | (cases h;exact .inr ⟨_,rfl,rfl⟩) | cases h
def litW(w:World)(es:Array MapEntry)(ck:Nat):World:=w.alloc (.map es ck)
structure PendOk(P:Program)(w:World)(g:Gh)(a:Act)(p:Pend)(es:Array MapEntry):Prop where
 at_:a.eval (.tmp p.d)=.map (some w.heap.size)
 keys:RepW w g.L p.ks (es.toList.map (·.key))
 vals:RepW w g.L p.vs (es.toList.map (·.val))
theorem RepW.snoc {w:World}{L:Lv}{x:V}{u:Value}(h:Rep w L x u):∀{l:List V} {cs:List Value},RepW w L l cs→RepW w L (l++[x]) (cs++[u])
 | [],_,r=>by rw[show _=[] from r];exact⟨u,[],rfl,h,rfl⟩
 | y::ys,_,⟨z,zs,e,h1,h2⟩=>by rw[e];exact⟨z,zs++[u],rfl,h1,h2.snoc h⟩
theorem toVF_rep{w:World}{g:Gh}{t:T}{x:V}{v:Value}(h:t.toVF=some x)(r:RepT P w g t v):Rep w g.L x v:=by
 unfold T.toVF at h
 split at h
 ·cases h
  obtain⟨cs,rfl,hc⟩:=r
  rw[show cs=#[] from Array.toList_inj.1 (show cs.toList=[] from hc)]
  rfl
 ·exact toV_rep r h
theorem run_insert{w:World}{g:Gh}{t kt et:TypeId}{ei:TypeInfo}{kd:Option IntKind}{kv:V}{ks vs:List V}{es:Array MapEntry}{ck:Nat}{ku vu:Value}(t1:P.underlying t=some (.map kt et))(t2:P.underlying kt=some (match kd with | some d=>.int d | none=>.string))
  (b1:keyOk kd kv=true) (b2:ks.all (keyOk kd)=true) (b3:ks.length=vs.length) (hm:mget kv ks vs=none) (hku:Rep w g.L kv ku) (hk:RepW w g.L ks (es.toList.map (·.key))) (hv:RepW w g.L vs (es.toList.map (·.val))):
  (Instr.mapUpdate t (.map (some w.heap.size)) ku vu).run P (litW w es ck)=.ok () (litW w (es.push {key:=ku,val:=vu,born:=ck}) (ck+1)):=by
 obtain⟨r,hr,hmr⟩:=find_run b1 hku ks vs es.toList 0 b2 b3 hk hv
 rw[hm] at hmr
 dsimp only at hmr
 subst hmr
 have hobj:(litW w es ck).heap[w.heap.size]? =some (.map es ck):=heap_alloc_new w _
 have hkey:(Instr.checkKey false 10000 kt ku).run P (litW w es ck)=.ok () (litW w es ck):=by
  show(Instr.checkKey false (9999+1) kt ku).run P (litW w es ck)=.ok () (litW w es ck)
  unfold Instr.checkKey
  simp only[Sem.run_bind,run_underlying t2,Result.andThen_ok]
  cases kd <;> rfl
 have hset:{litW w es ck with heap:=(litW w es ck).heap.setIfInBounds w.heap.size (.map (es.push {key:=ku,val:=vu,born:=ck}) (ck+1))}=litW w (es.push {key:=ku,val:=vu,born:=ck}) (ck+1):=by
  have harr:(w.heap.push (.map es ck)).setIfInBounds w.heap.size (.map (es.push {key:=ku,val:=vu,born:=ck}) (ck+1))=w.heap.push (.map (es.push {key:=ku,val:=vu,born:=ck}) (ck+1)):=by
   apply Array.ext
   ·simp
   ·intro i h1 h2
    rw[Array.getElem_setIfInBounds (by simpa using h1)]
    by_cases e:w.heap.size=i
    ·subst e;simp
    ·rw[if_neg e]
     simp at h2
     rw[Array.getElem_push_lt (by omega),Array.getElem_push_lt (by omega)]
  unfold litW World.alloc
  dsimp only
  rw[harr]
 simp[Instr.mapUpdate,run_underlying t1,MapKept.run_getObj_map hobj,hkey,MapKept.run_findKey t2 hr,MapKept.run_setObj_map _ hobj,Result.andThen,hset]
theorem born_push{es:Array MapEntry}{ck:Nat}(h:(es.toList.map (·.born)).Nodup∧∀x∈es.toList,x.born < ck)(k v:Value):(((es.push {key:=k,val:=v,born:=ck}).toList.map (·.born)).Nodup∧∀x∈(es.push {key:=k,val:=v,born:=ck}).toList,x.born < ck+1):=by
 obtain⟨h1,h2⟩:=h
 refine⟨?_,fun x hx=>?_⟩
 ·rw[Array.toList_push,List.map_append]
  refine List.nodup_append.2 ⟨h1,by simp,fun b hb c hc=>?_⟩
  obtain⟨x,hx,rfl⟩:=List.mem_map.1 hb
  have:=h2 x hx
  simp at hc
  omega
 ·rw[Array.toList_push] at hx
  rcases List.mem_append.1 hx with hx | hx
  ·have:=h2 x hx;omega
  ·have:=List.mem_singleton.1 hx;subst this;exact Nat.lt_succ_self _
section
variable {X : En} {base N : Nat} {S : Nat → Prop} {F : Fence} {n : Nat} {ops : Array Oper} {Q : Exit → Act → World → Prop} {Wr : Nat → Prop} {a0 : Act} {w0 : World} {g0 : Gh} {K : St → Prop}
structure LnkP(P:Program)(X:En)(base:Nat)(S:Nat→Prop)(N:Nat)(Wr:Nat→Prop)(a0:Act)(w0:World)(g0:Gh)(st:St)(a:Act)(w:World)(g:Gh)(p:Pend)(es:Array MapEntry):Prop where
 lnk:Lnk P X base S N Wr a0 w0 g0 st a w g
 pend:PendOk P w g a p es
 dN:p.d < st.n
theorem lit_wp{X0:En}(hX:X.Le X0)(hF:Open F)(hT:TabOk P tb)(hWr:∀(j:Nat) (o:Oper) (d:Nat),ops[j]? =some o→o.dst=some d→Wr d)
  {M:Nat} (hM:M≤ops.size) {tl:List Nat} (hQn:∀a w st g,K st→Lnk P X base S N Wr a0 w0 g0 st a w g→wpOpsIn F n P ops Q tl a w):∀(m:Nat),
  (∀(k:Nat) (st:St) (a:Act) (w:World) (g:Gh),m+k=M→semLit tb (Cn P X0) ops.toList none ((ops.toList.take M).drop k) st K→Lnk P X base S N Wr a0 w0 g0 st a w g→wpOpsIn F n P ops Q (List.range' k m++tl) a w)∧
  (∀(k:Nat) (st:St) (a:Act) (w:World) (g:Gh) (p:Pend) (es:Array MapEntry) (ck:Nat),((es.toList.map (·.born)).Nodup∧∀x∈es.toList,x.born < ck)→m+k=M→semLit tb (Cn P X0) ops.toList (some p) ((ops.toList.take M).drop k) st K→LnkP P X base S N Wr a0 w0 g0 st a w g p es→Wr p.d→wpOpsIn F n P ops Q (List.range' k m++tl) a (litW w es ck)):=by
 intro m
 induction m with
 | zero=>
  refine⟨fun k st a w g hk hs h=>?_,fun k st a w g p es ck _ hk hs h _=>?_⟩
  ·rw[List.drop_eq_nil_of_le (by rw[List.length_take,Array.length_toList];omega)] at hs
   exact hQn a w st g hs h
  ·rw[List.drop_eq_nil_of_le (by rw[List.length_take,Array.length_toList];omega)] at hs
   exact hs.elim
 | succ m ih=>
  have plain:∀(k:Nat) (st:St) (a:Act) (w:World) (g:Gh) (hlt:k < ops.size),m+1+k=M→semG tb (Cn P X0) ops.toList ops.toList[k] st (fun st'=>semLit tb (Cn P X0) ops.toList none ((ops.toList.take M).drop (k+1)) st' K)→Lnk P X base S N Wr a0 w0 g0 st a w g→wpOpsIn F n P ops Q (List.range' k (m+1)++tl) a w:=fun k st a w g hlt hk hs h=>by
   rw[List.range'_succ,List.cons_append,wpOpsIn_cons]
   have h1:=semG_wpIn hX hF hT (n:=n) (N:=N) (ops:=ops) Q h.n h.hd hs
   have hi:ops[k]? =some ops.toList[k]:=by rw[Array.getElem?_eq_getElem hlt];simp
   have next:∀a' w',Aft P X base S N st.lv (bad (ops.toList[k]) a) (ops.toList[k]).dst a w g (fun st'=>semLit tb (Cn P X0) ops.toList none ((ops.toList.take M).drop (k+1)) st' K) a' w'→wpOpsIn F n P ops Q (List.range' (k+1) m++tl) a' w':=fun a' w' ⟨st',g',q1,q2,q3,q4,q5,q6,q7⟩=>
    ih.1 (k+1) st' a' w' g' (by omega) q1 ⟨q2,h.stp.trans q3,q4.trans h.df,by have e1:=q2.sz;have e2:=h.hd.sz;have e3:=h.n;omega,fun t ht=>(q7 t (fun e=>ht (hWr k _ t hi e))).trans (h.kp t ht)⟩
   unfold wpOpIn
   simp only[hi]
   split
   ·rename_i hw
    rw[if_pos hw] at h1
    exact Oper.wpIn_mono next h1
   ·rename_i hw
    rw[if_neg hw] at h1
    exact⟨h1.1,next _ _ h1.2⟩
  refine⟨fun k st a w g hk hs h=>?_,fun k st a w g p es ck hbn hk hs h hWd=>?_⟩
  ·have hlt:k < ops.size:=by omega
   have hi:ops[k]? =some ops.toList[k]:=by rw[Array.getElem?_eq_getElem hlt];simp
   rw[List.drop_eq_getElem_cons (by rw[List.length_take,Array.length_toList];omega),List.getElem_take] at hs
   unfold semLit at hs
   split at hs
   ·rename_i t hop
    split at hs <;> try exact hs.elim
    rename_i d hg hd
    split at hs <;> try exact hs.elim
    rename_i q hb hq
    rw[frcSt_eq] at hs
    rw[Nat.blt_eq] at hb
    rw[List.range'_succ,List.cons_append,wpOpsIn_cons]
    unfold wpOpIn
    simp only[hi]
    rw[if_pos (by unfold Region.wanted;rw[hg])]
    refine⟨fun f _=>hF.fn f,?_⟩
    have hrun:(execOp a.eval ops.toList[k]).run P w=.ok (.value (.map (some w.heap.size))) (litW w #[] 0):=by
     unfold execOp
     simp only[hop,Option.map_none,Instr.makeMap,Sem.run_bind,Sem.run_pure,Result.andThen_ok,run_newObj]
     rfl
    rw[Oper.semAt_plain F _ _ (by rw[hop];intro c h;cases h),hrun]
    show wpOpsIn F n P ops Q (List.range' (k+1) m++tl) (a.put ops.toList[k].dst _) _
    rw[hd]
    have hsz:d < a.tmps.size:=by rw[h.hd.sz];exact hb
    refine ih.2 (k+1) _ _ w g ⟨d,t,[],[]⟩ #[] 0 ⟨List.nodup_nil,fun x hx=>by cases hx⟩ (by omega) hs ⟨⟨h.hd.put (some d) (t:=.un) trivial,h.stp,(put_defers _ _ _).trans h.df,(put_n _ _ _).trans h.n,fun t ht=>(put_keep _ _ _ t (fun e=>ht (hWr k _ t hi (hd.trans e)))).trans (h.kp t ht)⟩,⟨?_,rfl,rfl⟩,by rw[put_n];exact hb⟩ (hWr k _ d hi hd)
    show(a.put (some d) _).tmps.getD d undef=_
    simp[Act.put,hsz]
   ·exact plain k st a w g hlt hk hs h
  ·have hlt:k < ops.size:=by omega
   have hi:ops[k]? =some ops.toList[k]:=by rw[Array.getElem?_eq_getElem hlt];simp
   rw[List.drop_eq_getElem_cons (by rw[List.length_take,Array.length_toList];omega),List.getElem_take] at hs
   unfold semLit at hs
   split at hs <;> try exact hs.elim
   rename_i hg
   split at hs
   ·rename_i t d kx vx hop
    split at hs <;> try exact hs.elim
    rename_i hb hd
    rw[Bool.and_eq_true] at hb
    have hdd:=Nat.eq_of_beq_eq_true hb.1
    have htt:=Nat.eq_of_beq_eq_true hb.2
    split at hs <;> try exact hs.elim
    rename_i kv vv q hkv hvv hq
    split at hs <;> try exact hs.elim
    rename_i hb2
    simp only[Bool.and_eq_true] at hb2
    split at hs <;> try exact hs.elim
    rename_i hm
    rw[frcPend_eq] at hs
    obtain⟨kt,et,ei,t1,t2,_⟩:=hT.mps hq
    have hku:=toV_rep (h.lnk.hd.ev kx) hkv
    have hvu:=toVF_rep hvv (h.lnk.hd.ev vx)
    rw[List.range'_succ,List.cons_append,wpOpsIn_cons]
    unfold wpOpIn
    simp only[hi]
    rw[if_pos (by unfold Region.wanted;rw[hg])]
    refine⟨fun f _=>hF.fn f,?_⟩
    have hrun:(execOp a.eval ops.toList[k]).run P (litW w es ck)=.ok .skip (litW w (es.push {key:=a.eval kx,val:=a.eval vx,born:=ck}) (ck+1)):=by
     unfold execOp
     have e1:a.eval (.tmp d)=.map (some w.heap.size):=by rw[hdd];exact h.pend.at_
     simp only[hop,e1,Sem.run_bind,run_insert (g:=g) (ei:=ei) (ck:=ck) (vu:=a.eval vx) t1 t2 hb2.1.1 hb2.1.2 (Nat.eq_of_beq_eq_true hb2.2) hm hku h.pend.keys h.pend.vals,Result.andThen_ok,Sem.run_pure]
    rw[Oper.semAt_plain F _ _ (by rw[hop];intro c h;cases h),hrun]
    show wpOpsIn F n P ops Q (List.range' (k+1) m++tl) (a.put ops.toList[k].dst _) _
    rw[hd]
    exact ih.2 (k+1) st a w g ⟨p.d,p.t,p.ks++[kv],p.vs++[vv]⟩ _ (ck+1) (born_push hbn _ _) (by omega) hs ⟨h.lnk,⟨h.pend.at_,by rw[Array.toList_push,List.map_append];exact h.pend.keys.snoc hku,by rw[Array.toList_push,List.map_append];exact h.pend.vals.snoc hvu⟩,h.dN⟩ hWd
   ·rename_i d hop
    split at hs <;> try exact hs.elim
    rename_i hb
    have hdd:=Nat.eq_of_beq_eq_true hb
    rw[frcSt_eq] at hs
    have hbel:Below w.heap.size w (litW w es ck):=below_new w _
    obtain⟨h1,h2,_⟩:=h.lnk.hd.below (N:=N) hbel (Same.of_below hbel) .inl (fun {b o} hL=>by obtain⟨u,hu⟩:=h.lnk.hd.mm.Lc hL;exact⟨u,cell_below hu hbel⟩)
    have hput:a.put (some d) (.map (some w.heap.size))=a:=by
     have e1:a.tmps.getD d undef=.map (some w.heap.size):=by rw[hdd];exact h.pend.at_
     have hsz:d < a.tmps.size:=by rw[h.lnk.hd.sz,hdd];exact h.dN
     unfold Act.put
     dsimp only
     have:a.tmps.setIfInBounds d (.map (some w.heap.size))=a.tmps:=by
      apply Array.ext
      ·simp
      ·intro i i1 i2
       rw[Array.getElem_setIfInBounds]
       split
       ·rename_i e;subst e
        rw[←e1,Array.getD_eq_getD_getElem?,Array.getElem?_eq_getElem i2];rfl
       ·rfl
     rw[this]
    have h3:=h1.put (some d) (t:=.v (.mp p.ks p.vs)) (v:=.map (some w.heap.size)) ⟨w.heap.size,es,ck,rfl,heap_alloc_new w _,hbn,RepW.mono (Same.of_below hbel) _ _ h.pend.keys,RepW.mono (Same.of_below hbel) _ _ h.pend.vals⟩
    rw[hput] at h3
    exact plain k _ a _ _ hlt hk hs ⟨h3,h.lnk.stp.trans h2,h.lnk.df,(put_n _ _ _).trans h.lnk.n,h.lnk.kp⟩
   ·split at hs <;> try exact hs.elim
    rename_i d hq hd
    split at hs <;> try exact hs.elim
    rename_i hb
    rw[Bool.and_eq_true] at hq
    have hne:d≠p.d:=fun e=>by rw[e,Nat.beq_refl] at hb;cases hb
    obtain⟨v,t,cells,y1,y2,y3,y4,_⟩:=semG_quiet hT (conOk hX) hq.1 h.lnk.hd hs
    have hcn:cells=[]:=Classical.byContradiction fun e=>by rw[y4 e] at hq;cases hq.2
    rw[List.range'_succ,List.cons_append,wpOpsIn_cons]
    unfold wpOpIn
    simp only[hi]
    rcases y1 with⟨hw,_,hr⟩ | ⟨hw,_,_⟩
    ·rw[if_pos hw]
     refine⟨fun f _=>hF.fn f,?_⟩
     rw[Oper.semAt_plain F _ _ (quiet_noDefer hq.1),hr _ (by rw[hcn];intro p hp;cases hp)]
     refine ih.2 (k+1) _ _ w g p es ck hbn (by omega) y3 ⟨⟨h.lnk.hd.put _ y2,h.lnk.stp,(put_defers _ _ _).trans h.lnk.df,(put_n _ _ _).trans h.lnk.n,fun t ht=>(put_keep _ _ _ t (fun e=>ht (hWr k _ t hi e))).trans (h.lnk.kp t ht)⟩,⟨?_,h.pend.keys,h.pend.vals⟩,by rw[put_n];exact h.dN⟩ hWd
     show(a.put _ _).tmps.getD p.d undef=_
     rw[put_keep _ _ _ p.d (by rw[hd];intro e;cases e;exact hne rfl)]
     exact h.pend.at_
    ·rw[show Region.wanted ops.toList[k] (yielded ops a.tmps)=true by unfold Region.wanted;rw[hg]] at hw
     cases hw
theorem lit_none{X0:En}(hX:X.Le X0)(hF:Open F)(hT:TabOk P tb)(hWr:∀(j:Nat) (o:Oper) (d:Nat),ops[j]? =some o→o.dst=some d→Wr d)
  {M:Nat} (hM:M≤ops.size) {tl:List Nat} (hQn:∀a w st g,K st→Lnk P X base S N Wr a0 w0 g0 st a w g→wpOpsIn F n P ops Q tl a w) (m k:Nat) (st:St) (a:Act) (w:World) (g:Gh) (hm:m+k=M) (hs:semLit tb (Cn P X0) ops.toList none ((ops.toList.take M).drop k) st K) (h:Lnk P X base S N Wr a0 w0 g0 st a w g):wpOpsIn F n P ops Q (List.range' k m++tl) a w:=
 (lit_wp hX hF hT hWr hM hQn m).1 k st a w g hm hs h
end
theorem no9999_gen{ops:Array Oper}:∀(r:List Nat) (listed:Array Bool),(∃j,j < ops.size∧listed.getD j true=true)→takeOk ops r listed=true→9999∉r
 | [],_,_,_,h=>by cases h
 | i :: r, listed, ⟨j, hj, hl⟩, hok, hm => by
  unfold takeOk at hok
  split at hok
  ·rw[Bool.and_eq_true] at hok
   have:=List.all_eq_true.1 hok.2 j (List.mem_range.2 hj)
   rw[hl] at this;cases this
  ·rename_i hb
   rw[Bool.and_eq_true] at hok
   rcases List.mem_cons.1 hm with rfl | hm
   ·cases hb
   ·refine no9999_gen r _ ⟨j,hj,?_⟩ hok.2 hm
    by_cases e:ixOf i=j
    ·subst e
     rw[Array.getD_eq_getD_getElem?]
     by_cases hs:ixOf i < listed.size
     ·simp[hs]
     ·simp[hs]
    ·rw[getD_set_ne true e];exact hl
theorem stepAny_lt{ops:Array Oper}{listed:Array Bool}{i:Nat}(h:stepAny ops listed i=true):ixOf i < ops.size:=by
 unfold stepAny at h
 unfold ixOf
 split at h
 ·unfold stepOk at h
  split at h
  ·cases h
  ·rename_i o ho;exact(Array.getElem?_eq_some_iff.1 ho).1
 ·split at h
  ·unfold stepOkS at h
   split at h
   ·cases h
   ·rename_i o ho;exact(Array.getElem?_eq_some_iff.1 ho).1
  ·unfold stepOkR at h
   split at h
   ·cases h
   ·rename_i o ho;exact(Array.getElem?_eq_some_iff.1 ho).1
theorem no9999{ops:Array Oper}{i:Nat}{r:List Nat}(hok:takeOk ops (i::r) (Array.replicate ops.size false)=true)(hm:9999∈i::r)(hi:i≠9999):False:=by
 unfold takeOk at hok
 have hb:Nat.beq i 9999=false:=by rw[←Bool.not_eq_true,Nat.beq_eq];exact hi
 rw[hb] at hok
 dsimp only at hok
 rw[Bool.and_eq_true] at hok
 rcases List.mem_cons.1 hm with h | h
 ·exact hi h.symm
 ·have hlt:=stepAny_lt hok.1
  exact no9999_gen r _ ⟨ixOf i,hlt,by rw[Array.getD_eq_getD_getElem?];simp[hlt]⟩ hok.2 h
theorem code_wp(hT:TabOk P tb)(hm:P.follows .mixedOrders=true){X0:En}:∀(c:Code) (X:En) (hX:X.Le X0) (base N:Nat) (S:Nat→Prop) (F:Fence) (n:Nat) (hF:Open F) (Wr:Nat→Prop) (hW:∀t∈codeW c,Wr t) (Q:Exit→St→Prop) (st:St) (a:Act) (w:World) (g:Gh),(∀ch st,¬Q (.panic ch) st)→(∀l,F.round=some l→∃r,w.heap[l]? =some (.loop r))→aCode P X0 tb c Q st→Hd P X base S st a w g→st.n=N→c.wpIn F n P (AftR P X base S N Wr a w g Q) a w:=by
 intro c
 induction c with
 | skip=>intro X hX base N S F n hF Wr hW Q st a w g hp hl h hd hn;exact wpIn_skip (out_of h hd hn)
 | exit id=>intro X hX base N S F n hF Wr hW Q st a w g hp hl h hd hn;exact wpIn_exit (out_of h hd hn)
 | ret=>intro X hX base N S F n hF Wr hW Q st a w g hp hl h hd hn;exact wpIn_ret (out_of h hd hn)
 | label l=>intro X hX base N S F n hF Wr hW Q st a w g hp hl h hd hn;exact wpIn_label (out_of h hd hn)
 | goto l=>intro X hX base N S F n hF Wr hW Q st a w g hp hl h hd hn;exact wpIn_goto (out_of h hd hn)
 | scope b=>intro X hX base N S F n hF Wr hW Q st a w g hp hl h hd hn;exact h.elim
 | refuse s=>intro X hX base N S F n hF Wr hW Q st a w g hp hl h hd hn;exact h.elim
 | region id ops draw=>
  intro X hX base N S F n hF Wr hW Q st a w g hp hl h hd hn
  have hWr:∀(j:Nat) (o:Oper) (d:Nat),ops[j]? =some o→o.dst=some d→Wr d:=fun j o d hj ho=>hW d (List.mem_filterMap.2 ⟨o,by simpa using Array.mem_of_getElem? hj,ho⟩)
  have fin:∀a' w' st' g',Q .normal st'→Hd P X base S st' a' w' g'→Stp X base S N w g w' g'→a'.defers=a.defers→st'.n=N→(∀t,¬Wr t→a'.tmps.getD t undef=a.tmps.getD t undef)→AftR P X base S N Wr a w g Q .normal a' w':=fun a' w' st' g' h1 h2 h3 h4 h5 h6=>⟨st',g',h1,h2,h3,h5,h6,[],h4,MarksOk.nil _ _⟩
  cases draw with
  | false=>
   refine wpIn_region ?_
   rw[List.range_eq_range']
   unfold aCode at h
   dsimp only at h
   split at h
   rotate_left
   ·have:=lit_none (n:=n) (Q:=AftR P X base S N Wr a w g Q) hX hF hT hWr (K:=Q .normal) (M:=ops.size) (Nat.le_refl _) (tl:=[]) (fun a' w' st' g' hq h=>fin a' w' st' g' hq h.hd h.stp h.df h.n h.kp) ops.size 0 st a w g (by omega) (by rw[List.take_of_length_le (by rw[Array.length_toList];exact Nat.le_refl _)];exact h) ⟨hd,Stp.refl _ _ _ _ _ _,rfl,hn,fun _ _=>rfl⟩
    rw[List.append_nil] at this
    exact this
   exact ops_wp hX hF hT (K:=Q .normal) (a0:=a) (w0:=w) (g0:=g) hWr fin ops.size 0 st a w g (by omega) h hd (Stp.refl _ _ _ _ _ _) rfl hn (fun _ _=>rfl)
  | true=>
   obtain⟨sch0,hok,hs⟩:=h
   generalize sch0.getD (List.range ops.size)=sch at hok hs
   unfold regionOk at hok
   simp only[Bool.and_eq_true] at hok
   obtain⟨⟨⟨o0,o1⟩,o2⟩,o3⟩:=hok
   refine wpIn_region_draw fun t=>?_
   simp only[Region.schedule,hm,Bool.true_or,if_true]
   have lnk:Lnk P X base S N Wr a w g st a {w with drawn:=w.drawn+1} g:=⟨hd.drew,Stp.drew,rfl,hn,fun _ _=>rfl⟩
   have hqp:∀c a0 w0,¬AftR P X base S N Wr a w g Q (.panic c) a0 w0:=fun c a w ⟨st',_,h,_⟩=>hp c st' h
   have fin':∀a' w' st' g',Q .normal st'→Lnk P X base S N Wr a w g st' a' w' g'→AftR P X base S N Wr a w g Q .normal a' w':=fun a' w' st' g' hq h=>fin a' w' st' g' hq h.hd h.stp h.df h.n h.kp
   have anyk:AnyK F n P ops (AftR P X base S N Wr a w g Q) ops.size (Array.replicate ops.size false) g st.lv a {w with drawn:=w.drawn+1}:=by
    by_cases hm9:9999∈sch
    ·cases sch with
     | nil=>cases hm9
     | cons i r=>
      unfold takeOk at o3
      by_cases hi:i=9999
      ·subst hi
       unfold semSch at hs
       rw[show Nat.beq 9999 9999=true from rfl] at hs
       dsimp only at hs
       obtain⟨t,ht,st0,hs,hk⟩:=hs
       rw[Bool.and_eq_true] at ht
       rw[Array.length_toList,Array.toArray_toList] at ht
       exact(tr_anyK (n:=n) (Q:=AftR P X base S N Wr a w g Q) hX hF hT o1 o2 (K:=fun st'=>St.le st' st0) hWr (fun a' w' st' g' hq h=>fin' a' w' st0 g' hk ⟨h.hd.le' hq,h.stp,h.df,hq.n.symm.trans h.n,h.kp⟩) hqp t _ st a _ g hs lnk).1 ops.size (Nat.le_of_ble_eq_true ht.1) ht.2
      ·exact(no9999 o3 hm9 hi).elim
    ·exact sch_anyK (n:=n) (Q:=AftR P X base S N Wr a w g Q) hX hF hT o1 o2 (K:=Q .normal) hWr fin' hqp sch ops.size (Array.replicate ops.size false) st a _ g (Nat.le_of_ble_eq_true o0) hm9 o3 hs lnk
   have:=anyk.any
   exact wpAnyIn_sound ops.size t _ a _ this
 | seq x y ihx ihy=>
  intro X hX base N S F n hF Wr hW Q st a w g hp hl h hd hn
  unfold aCode at h
  split at h
  rotate_left
  ·obtain⟨st1,hf,hy⟩:=h
   refine wpIn_seq (wpIn_mono (hf X hX base N S F n Wr a w g hF (fun t ht=>hW t (List.mem_append_left _ ht)) hl hd hn) ?_)
   rintro e a1 w1 ⟨st',g',⟨rfl,rfl⟩,q2,q3,q4,q5,q6⟩
   exact wpIn_mono (ihy X hX base N S F n hF Wr (fun t ht=>hW t (List.mem_append_right _ ht)) Q st' a1 w1 g' hp (fun l hl'=>by obtain⟨r,hr⟩:=hl l hl';exact⟨r,q3.obj hr rfl⟩) hy q2 q4) fun e a2 w2 k=>k.next q3 q5 q6
  refine wpIn_seq (wpIn_mono (ihx X hX base N S F n hF Wr (fun t ht=>hW t (List.mem_append_left _ ht)) (seqQ (fun st'=>aCode P X0 tb y Q st') Q) st a w g (fun ch st' hh=>hp ch st' hh) hl h hd hn) ?_)
  rintro e a1 w1 ⟨st',g',q1,q2,q3,q4,q5,q6⟩
  cases e with
  | normal=>exact wpIn_mono (ihy X hX base N S F n hF Wr (fun t ht=>hW t (List.mem_append_right _ ht)) Q st' a1 w1 g' hp (fun l hl'=>by obtain⟨r,hr⟩:=hl l hl';exact⟨r,q3.obj hr rfl⟩) q1 q2 q4) fun e a2 w2 k=>k.next q3 q5 q6
  | exit id=>exact⟨st',g',q1,q2,q3,q4,q5,q6⟩
  | goto l=>exact⟨st',g',q1,q2,q3,q4,q5,q6⟩
  | ret=>exact⟨st',g',q1,q2,q3,q4,q5,q6⟩
  | panic ch=>exact⟨st',g',q1,q2,q3,q4,q5,q6⟩
  | outgrown=>exact⟨st',g',q1,q2,q3,q4,q5,q6⟩
 | cond c x y ihx ihy=>
  intro X hX base N S F n hF Wr hW Q st a w g hp hl h hd hn
  unfold aCode at h
  have hc:=hd.ev c
  split at h
  ·rename_i hq
   rw[hq] at hc
   exact wpIn_cond_true hc (ihx X hX base N S F n hF Wr (fun t ht=>hW t (List.mem_append_left _ ht)) Q st a w g hp hl h hd hn)
  ·rename_i hq
   rw[hq] at hc
   exact wpIn_cond_false hc (ihy X hX base N S F n hF Wr (fun t ht=>hW t (List.mem_append_right _ ht)) Q st a w g hp hl h hd hn)
  ·exact h.elim
 | block id b ih=>
  intro X hX base N S F n hF Wr hW Q st a w g hp hl h hd hn
  refine wpIn_block (wpIn_mono (ih X hX base N S F n hF Wr hW (blockQ id Q) st a w g (fun ch st' hh=>hp ch st' hh) hl h hd hn) ?_)
  rintro e a1 w1 ⟨st',g',q1,q2⟩
  cases e with
  | exit j=>
   unfold blockQ at q1
   dsimp only at q1
   split at q1
   ·rename_i hb
    have:j=id:=Nat.eq_of_beq_eq_true hb
    simp only[Exit.inBlock,this,if_true]
    exact⟨st',g',q1,q2⟩
   ·rename_i hb
    have:j≠id:=fun e=>by rw[e,Nat.beq_refl] at hb;cases hb
    simp only[Exit.inBlock,this,if_false]
    exact⟨st',g',q1,q2⟩
  | normal=>exact⟨st',g',q1,q2⟩
  | goto l=>exact⟨st',g',q1,q2⟩
  | ret=>exact⟨st',g',q1,q2⟩
  | panic ch=>exact⟨st',g',q1,q2⟩
  | outgrown=>exact⟨st',g',q1,q2⟩
 | loop b ih=>
  intro X hX base N S F n hF Wr hW Q st a w g hp hl h hd hn
  obtain⟨α,I,inv,rk,⟨x0,σ0,hi0,hw0⟩,hr⟩:=h
  obtain⟨h1,h2⟩:=hd.wk (N:=N) hw0
  refine wpIn_loop_ghost (fun k a1 w1=>∃x g1,inv x∧rk x=k∧Hd P X base S (I x) a1 w1 g1∧Stp X base S N w g w1 g1∧(I x).n=N∧(∀t,¬Wr t→a1.tmps.getD t undef=a.tmps.getD t undef)∧∃ms,a1.defers=marks ms++a.defers∧MarksOk w w1 ms) (rk x0) ⟨x0,_,hi0,rfl,h1,h2,hw0.1.trans hn,fun _ _=>rfl,[],rfl,MarksOk.nil _ _⟩ ?_
  rintro k a1 w1 ⟨x,g1,hix,rfl,q1,q2,q4,q5,q6⟩
  refine wpIn_mono (ih X hX base N S F n hF Wr hW (loopQ I inv rk x Q) (I x) a1 w1 g1 (fun ch st' hh=>hp ch st' hh) (fun l hl'=>by obtain⟨r,hr⟩:=hl l hl';exact⟨r,q2.obj hr rfl⟩) (hr x hix) q1 q4) ?_
  intro e a2 w2 hk
  have hk':=AftR.next q2 q5 q6 hk
  obtain⟨st',g',p1,p2,p3,p4,p5,p6⟩:=hk'
  cases e with
  | normal=>
   obtain⟨y,σ,hiy,hlt,hw⟩:=p1
   obtain⟨i1,i2⟩:=p2.wk (N:=N) hw
   exact⟨rk y,hlt,y,_,hiy,rfl,i1,p3.trans i2,hw.1.trans p4,p5,p6⟩
  | exit id=>exact⟨st',g',p1,p2,p3,p4,p5,p6⟩
  | goto l=>exact⟨st',g',p1,p2,p3,p4,p5,p6⟩
  | ret=>exact⟨st',g',p1,p2,p3,p4,p5,p6⟩
  | panic ch=>exact⟨st',g',p1,p2,p3,p4,p5,p6⟩
  | outgrown=>exact⟨st',g',p1,p2,p3,p4,p5,p6⟩
 | rangeFunc fo ps x y ihx ihy=>
  intro X hX base N S F n hF Wr hW Q st a w g hp hl h hd hn
  unfold aCode at h
  have hfo:=hd.ev fo
  split at h <;> try exact h.elim
  rename_i f caps hf
  rw[hf] at hfo
  obtain⟨cs,hcv,hcaps⟩:=hfo
  have goal:∃(C:Nat→Prop),(∀(vs:Array Value) (w:World),(callFunc f vs).run P w=.ok (.enter f vs) w)∧∀(w1:World) (l:Nat) (mk:Option Nat) (fn:FuncId) (dn:Nat),Below w.heap.size w w1→(∀(k:Nat) (o:Obj),w1.heap[k]? =some o→isMapO o=true→w.heap[k]? =some o)→w1.heap[l]? =some (Rng.Rec.at ⟨fn,a.tmps,ps,x,y,dn⟩ .ready none)→w.heap.size≤l→(∀r,mk=some r→w.heap.size≤r∧r≠l∧w1.heap[r]? =some (.deferred (some [])))→
    Calls P f (#[.func (.yield l) #[] #[]]++cs) w1 fun e W'=>(∃v,e=.returned v)∧Behind P X base S N a w g w1.heap.size mk C l ⟨fn,a.tmps,ps,x,y,dn⟩ Q W':=by
   have hx:∀{stx:St} {i:Nat} {I:Nat→St} {inv:Nat→Prop} {l:Nat} {K:Exit→St→Prop},aCode P X0 tb x K stx→(∀ch st,¬K (.panic ch) st)→∀(X':En),X'.Le X0→∀(a1:Act) (W:World) (g1:Gh),Hd P X' base S stx a1 W g1→stx.n=N→(∃r,W.heap[l]? =some (.loop r))→x.wpIn (Fence.wide.inRound l) 0 P (AftR P X' base S N (· ∈ps.toList++(codeW x++codeW y)) a1 W g1 K) a1 W:=fun {stx i I inv l K} h hK X' hX' a1 W g1 hd1 hn1 hr1=>
    ihx X' hX' base N S _ 0 (.inr ⟨l,rfl⟩) _ (fun t ht=>List.mem_append_right _ (List.mem_append_left _ ht)) K stx a1 W g1 hK (fun l' hl'=>by cases hl';exact hr1) h hd1 hn1
   split at h
   ·obtain⟨caps',ys,I,inv,hIt,hle,hpu,⟨hi0,σ0,hw0⟩,hfree,hps,hround,hend⟩:=h
    have hcaps':=LeTs.rep (P:=P) _ _ _ hle hcaps
    have no:∀b,¬inB g 0 b:=fun b ⟨j,hj,_⟩=>by omega
    refine⟨inB g 0,hIt.1,fun w1 l mk fn dn hb hnm hrec hlw hmk=>?_⟩
    refine range_run hX (gc:=g) (gI:=g.ren σ0) (stE:=I ys.length) hIt rfl memB_nil (fun w1 hb=>RepTs.pure hpu (Same.of_below hb) hcaps') hd hn hi0 ⟨rfl,rfl⟩ (hd.wk (N:=N) hw0).1 (hw0.1.trans hn) hend (fun b h=>(no b h).elim) (fun _ _ h=>no _ h) (fun _ _ _ _ _ h=>no _ h) hfree hps (fun i v hv hi=>(hround i v hv hi).1) (fun lw Z W g' L' _ h1 _ _ _ _ _=>⟨g',h1.hd,h1.n,h1.stp,h1.lwle,h1.mark,fun _ _ h=>h,fun _ h=>h,fun _ _ _ _ _ h=>h,fun _ h=>h.elim,h1.cC⟩) hb hnm hrec hlw hmk
     (fun X' hX' i v hv hi a1 W g1 hd1 hn1 hr1=>hx (i:=i) (I:=I) (inv:=inv) (hround i v hv hi).2 (fun _ _ h=>h.elim) X' hX' a1 W g1 hd1 hn1 hr1)
     (fun X' hX' i st1 a1 W g1 h1 hd1 hn1 hr1=>ihy X' hX' base N S _ 0 (.inr ⟨l,rfl⟩) _ (fun t ht=>List.mem_append_right _ (List.mem_append_right _ ht)) _ st1 a1 W g1 (fun _ _ h=>h.elim) (fun l' hl'=>by cases hl';exact hr1) h1 hd1 hn1)
   ·obtain⟨bx,css0,css,caps',ys,css',re,I,inv,hIt,hnb,hl0,hbx,hle,hre,⟨hi0,σ0,hw0⟩,hI,hfree,hps,hround,hend⟩:=h
    have hcaps':=ArgLes.rep (P:=P) _ _ _ hle hcaps
    have hD:=(hd.wk (N:=N) hw0).1
    obtain⟨hbl,hget⟩:=bxOk_get hbx
    obtain⟨kn,ke,kl⟩:=bsets_keep (I 0) bx css0
    have off:∀i,isK (I 0).bs i→i∉bx:=fun i hi hm=>by
     have h1:=(hI 0).1
     unfold offB at h1
     have:=List.all_eq_true.1 h1 i hm
     unfold isK at hi
     rw[Option.isNone_iff_eq_none] at this
     rw[this] at hi;cases hi
    have lkI:∀{i},isK (I 0).bs i→lk i ((I 0).bsets bx css0).bs=lk i (I 0).bs:=fun {i} hi=>by
     rcases bsets_lk (I 0) bx css0 hnb (by omega) i with⟨j,cs,h1,_,_⟩ | ⟨_,h2⟩
     ·exact absurd (List.mem_of_getElem? h1) (off i hi)
     ·exact h2
    have isI:∀{i},isK (I 0).bs i→isK ((I 0).bsets bx css0).bs i:=fun {i} hi=>by
     unfold isK
     rw[lkI hi];exact hi
    have inX:∀{b},inB (g.of bx) css.length b→∃i,i∈bx∧isK ((I 0).bsets bx css0).bs i∧b=(g.ρ i).1:=fun {b} ⟨j,hj,e⟩=>by
     obtain⟨i,c,h1,h2,_⟩:=hget (List.getElem?_eq_getElem hj)
     exact⟨i,List.mem_of_getElem? h1,by unfold isK;rw[h2];rfl,by rw[e,Gh.of_at g h1]⟩
    have hI0:Hd P X base S (I 0) a w (g.ren σ0):=⟨hD.sz.trans kn,fun t=>by have:=hD.env t;rwa [ke] at this,⟨fun {i cs} hi=>hD.mm.box (i:=i) (by rw[lkI (by unfold isK;rw[hi];rfl)];exact hi),fun hi=>hD.mm.frz (isI hi),fun hi=>hD.mm.bxL (isI hi),fun hi=>hD.mm.bxE (isI hi),fun hi=>hD.mm.loc (isI hi),fun hi=>hD.mm.lt (isI hi),fun hi hj=>hD.mm.inj (isI hi) (isI hj),fun {k e} hk=>by
      obtain⟨n0,vals,o1,o2⟩:=hD.mm.own (by rw[kl];exact hk)
      exact⟨n0,vals,o1,fun b hb=>⟨(o2 b hb).1,fun i hi=>(o2 b hb).2 i (isI hi)⟩⟩,fun hk hk'=>hD.mm.ownInj (by rw[kl];exact hk) (by rw[kl];exact hk'),hD.mm.Lc,fun hi=>hD.mm.bc (isI hi),fun hk=>hD.mm.ownE (by rw[kl];exact hk)⟩,hD.E,hD.le⟩
    have hm0:MemB P X0 w (g.of bx) css:=Hd.passed (g:=g.ren σ0) hX hD hnb hbx
    refine⟨inB (g.of bx) css.length,hIt.1,fun w1 l mk fn dn hb hnm hrec hlw hmk=>?_⟩
    refine range_run hX (g:=g) (gc:=g.of bx) (gI:=g.ren σ0) (stE:=reE re (I ys.length)) hIt rfl hm0 (fun w1 hb=>RepTs.mono (Same.of_below hb) _ _ (fun _ _=>rfl) (fun _ _=>rfl) hcaps') hd hn hi0 ⟨rfl,rfl⟩ hI0 (kn.symm.trans (hw0.1.trans hn)) hend (fun b h=>?_) (fun i hi h=>?_) (fun k e b hk hbk h=>?_) hfree hps (fun i v hv hi=>(hround i v hv hi).1) (fun lw Z W g' L' hbl h1 hL r1 r2 r3 r4=>?_) hb hnm hrec hlw hmk
     (fun X' hX' i v hv hi a1 W g1 hd1 hn1 hr1=>hx (i:=i) (I:=I) (inv:=inv) (hround i v hv hi).2 (fun _ _ h=>h.elim) X' hX' a1 W g1 hd1 hn1 hr1)
     (fun X' hX' i st1 a1 W g1 h1 hd1 hn1 hr1=>ihy X' hX' base N S _ 0 (.inr ⟨l,rfl⟩) _ (fun t ht=>List.mem_append_right _ (List.mem_append_right _ ht)) _ st1 a1 W g1 (fun _ _ h=>h.elim) (fun l' hl'=>by cases hl';exact hr1) h1 hd1 hn1)
    ·obtain⟨i,h1,h2,rfl⟩:=inX h
     exact⟨⟨hD.mm.loc h2,hD.mm.lt h2,hD.mm.bc h2⟩,hD.mm.bxE h2⟩
    ·obtain⟨i',h1,h2,h3⟩:=inX h
     exact hD.mm.inj (isI hi) h2 (fun e=>off i hi (by rw[e];exact h1)) h3
    ·obtain⟨i',h1,h2,h3⟩:=inX h
     obtain⟨_,_,_,o2⟩:=hD.mm.own (by rw[kl];exact hk)
     exact(o2 b hbk).2 i' h2 h3.symm
    ·cases re with
     | none=>exact⟨g',h1.hd,h1.n,h1.stp,h1.lwle,h1.mark,fun _ _ h=>h,fun _ h=>h,fun _ _ _ _ _ h=>h,fun _ h=>h.elim,h1.cC⟩
     | some re=>
      obtain⟨q,d,s,cs'⟩:=re
      obtain⟨hq,hq',hpu,hlc,hs⟩:=hre
      have hev:=hd.env s
      rw[hs] at hev
      refine⟨_,RunJ.again (g:=g) (d:=d) hbl h1 hL r1 r2 r3 r4 hq hq' hlc hpu ?_ (hI _).2 hev⟩
      have h2:=(hI ys.length).1
      unfold offB at h2
      have:=List.all_eq_true.1 h2 d (List.mem_of_getElem? hq)
      rwa [Option.isNone_iff_eq_none] at this
  obtain⟨C,hent,key⟩:=goal
  have fin:∀(w1:World) (l:Nat) (mk:Option Nat) (fn:FuncId) (dn:Nat) (W':World),w.heap.size≤l→l < w1.heap.size→(∀r,mk=some r→r≠l)→Behind P X base S N a w g w1.heap.size mk C l ⟨fn,a.tmps,ps,x,y,dn⟩ Q W'→∃pe W'',(Instr.endLoop l).run P W'=.ok pe W''∧(match pe with
    | none=>AftR P X base S N Wr a w g Q .normal {a with defers:=marks mk.toList++a.defers} W''
    | some c=>c.wpIn F n P (AftR P X base S N Wr a w g Q) {a with defers:=marks mk.toList++a.defers} W''):=fun w1 l mk fn dn W' hlw hl1 hml hbh=>by
   obtain⟨ls,pe,hls,hrec,st',g',Z,hj,hcase⟩:=hbh
   refine⟨pe,_,run_endLoop (P:=P) hrec (by simpa using hls),?_⟩
   have hle0:=hd.le
   have hlE:¬X.Eb l:=fun hE=>by have:=X.lt hd.E hE;omega
   generalize hW2:W'.putObj l _=W2
   have hu:Upd (fun k=>k=l) W' W2:=by rw[←hW2];exact putObj_upd _ _ _
   have hoth:∀k,k≠l→W2.heap[k]? =W'.heap[k]? :=fun k hk=>by rw[←hW2];exact World.putObj_heap_other hk
   have hd2:Hd P X base S st' {a with defers:=marks mk.toList++a.defers} W2 g':=by
    have h1:=hj.hd.upd hu (by rw[←hW2];exact .putObj hrec rfl) (fun i hi e=>?_) (fun {b o} hL e=>?_) (fun k e b hk hbk eb=>?_) (fun b hbl=>by subst hbl;exact hlE)
    ·exact⟨h1.sz,h1.env,h1.mm,h1.E,h1.le⟩
    ·obtain⟨c,t,fr,hc⟩:=hj.hd.mm.bc hi
     rw[e,hrec] at hc;cases hc
    ·obtain⟨u,hu⟩:=hj.hd.mm.Lc hL
     unfold World.cell? at hu
     dsimp only at hu
     rw[e,hrec] at hu;cases hu
    ·obtain⟨n0,vals,o1,_⟩:=hj.hd.mm.own hk
     rcases o1.2 with⟨h0,_⟩ | ⟨gg,cap,cur,h0,_,h1,_⟩
     ·rw[h0] at hbk;cases hbk
     ·rw[h0] at hbk;cases hbk;dsimp only at eb;rw[eb,hrec] at h1;cases h1
   have cell2:∀{b q:Nat} {u:Value},W'.cell? ⟨b,q,none⟩=some u→W2.cell? ⟨b,q,none⟩=some u:=fun {b q u} hc=>by
    by_cases hbl:b=l
    ·subst hbl
     unfold World.cell? at hc
     rw[hrec] at hc;cases hc
    ·rw[cell_old (hoth b hbl)];exact hc
   have hst:Stp X base S N w g W2 g':=⟨hj.stp.upd.trans (hu.mono fun b hb=>.inr (by omega)),⟨fun b o u h1 h2=>⟨(hj.stp.same.c b o u h1 h2).1,cell2 (hj.stp.same.c b o u h1 h2).2⟩,hj.stp.same.m.trans (by rw[←hW2];exact .putObj hrec rfl)⟩,hj.stp.newL,hj.stp.rho,fun {k o} hk hc=>by
    rw[hoth k (fun e=>by have:=(Array.getElem?_eq_some_iff.1 hk).1;omega)]
    exact hj.stp.obj hk hc⟩
   have hmarks:MarksOk w W2 mk.toList:=by
    cases mk with
    | none=>exact MarksOk.nil _ _
    | some r=>
     refine⟨by simp,fun r' hr'=>?_⟩
     have:r'=r:=by simpa using hr'
     subst this
     obtain⟨m1,m2,m3⟩:=hj.mark r' rfl
     exact⟨m1,by rw[hoth r' (hml r' rfl)];exact m3⟩
   have out:∀e,Q e st'→AftR P X base S N Wr a w g Q e {a with defers:=marks mk.toList++a.defers} W2:=fun e hq=>⟨st',g',hq,hd2,hst,hj.n,fun _ _=>rfl,mk.toList,rfl,hmarks⟩
   rcases hcase with⟨rfl,hq⟩ | ⟨e,rfl,hsome,hq⟩
   ·exact out .normal hq
   ·cases hce:codeOf e with
    | none=>rw[hce] at hsome;cases hsome
    | some c=>
     rcases wrapped_none hce with⟨rfl,rfl⟩ | ⟨j,rfl,rfl⟩
     ·exact wpIn_ret (out _ hq)
     ·exact wpIn_exit (out _ hq)
  have hinv:∀(l:Nat) (W:World),(resolve a.eval (rangeCall fo l) 0).run P W=.ok {target:=.fn (.func f) cs,args:=#[.func (.yield l) #[] #[]]} W:=fun l W=>by
   simp only[resolve,hcv]
   simp[Deferred.ofValue,Act.eval]
  have ent:∀(l:Nat) (W:World),(invoke (.fn (.func f) cs) #[.func (.yield l) #[] #[]]).run P W=.ok (.enter f (#[.func (.yield l) #[] #[]]++cs)) W:=fun l W=>hent _ W
  refine wpIn_rangeFunc fun fn _=>?_
  cases hro:F.round with
  | none=>
   have hb:Below w.heap.size w ((w.alloc (.deferred (some []))).alloc (Rng.Rec.at ⟨fn,a.tmps,ps,x,y,w.heap.size⟩ .ready none)):=below_then (below_new _ _) (below_new _ _)
   refine⟨w.heap.size+1,[{target:=.collected w.heap.size,args:=#[]}],_,_,_,f,#[.func (.yield (w.heap.size+1)) #[] #[]]++cs,_,run_enterLoop_outer _ _ _ _ _,hinv _ _,fun f' _=>hF.fn f',ent _ _,fun h=>(by rw[hF.depth] at h;cases h),?_⟩
   have hr1:((w.alloc (.deferred (some []))).alloc (Rng.Rec.at ⟨fn,a.tmps,ps,x,y,w.heap.size⟩ .ready none)).heap[w.heap.size+1]? =some (Rng.Rec.at ⟨fn,a.tmps,ps,x,y,w.heap.size⟩ .ready none):=by
    have:=heap_alloc_new (w.alloc (.deferred (some []))) (Rng.Rec.at ⟨fn,a.tmps,ps,x,y,w.heap.size⟩ .ready none)
    simpa using this
   have hr2:((w.alloc (.deferred (some []))).alloc (Rng.Rec.at ⟨fn,a.tmps,ps,x,y,w.heap.size⟩ .ready none)).heap[w.heap.size]? =some (.deferred (some [])):=by
    rw[heap_alloc_old _ _ (by simp)]
    exact heap_alloc_new _ _
   refine hF.calls ((key _ (w.heap.size+1) (some w.heap.size) fn w.heap.size hb (fun k o h1 h2=>nomap_alloc (nomap_alloc h1 h2 rfl) h2 rfl) hr1 (by omega) (fun r hr=>by cases hr;exact⟨Nat.le_refl _,by omega,hr2⟩)).mono ?_)
   rintro e W' ⟨⟨v,rfl⟩,hbh⟩
   obtain⟨pe,W'',e1,e2⟩:=fin _ _ _ _ _ W' (by omega) (Array.getElem?_eq_some_iff.1 hr1).1 (fun r hr=>by cases hr;omega) hbh
   refine⟨pe,W'',e1,?_⟩
   cases pe with
   | none=>exact e2
   | some c=>exact e2
  | some l0=>
   obtain⟨r0,hr0⟩:=hl l0 hro
   have hb:Below w.heap.size w (w.alloc (Rng.Rec.at ⟨fn,a.tmps,ps,x,y,r0.defers⟩ .ready none)):=below_new _ _
   refine⟨w.heap.size,[],_,_,_,f,#[.func (.yield w.heap.size) #[] #[]]++cs,_,run_enterLoop_inner hr0 _ _ _ _ _,hinv _ _,fun f' _=>hF.fn f',ent _ _,fun h=>(by rw[hF.depth] at h;cases h),?_⟩
   have hr1:(w.alloc (Rng.Rec.at ⟨fn,a.tmps,ps,x,y,r0.defers⟩ .ready none)).heap[w.heap.size]? =some (Rng.Rec.at ⟨fn,a.tmps,ps,x,y,r0.defers⟩ .ready none):=heap_alloc_new _ _
   refine hF.calls ((key _ w.heap.size none fn r0.defers hb (fun k o h1 h2=>nomap_alloc h1 h2 rfl) hr1 (Nat.le_refl _) (fun r hr=>by cases hr)).mono ?_)
   rintro e W' ⟨⟨v,rfl⟩,hbh⟩
   obtain⟨pe,W'',e1,e2⟩:=fin _ _ _ _ _ W' (Nat.le_refl _) (Array.getElem?_eq_some_iff.1 hr1).1 (fun r hr=>by cases hr) hbh
   refine⟨pe,W'',e1,?_⟩
   cases pe with
   | none=>exact e2
   | some c=>exact e2
end Go.Proofs.YtknelogmocedeaaGreatDoor
