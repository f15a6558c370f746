/- The walk without memory: pieces of code, loops, a function's contract out of the walk of its body. Whatever program. -/
import Derived.Test.YtknelogmocedeaaGreatDoorR08
import Derived.Sort.LoopGhostIn
import Derived.RangeFuncNested
namespace Go.Proofs.YtknelogmocedeaaGreatDoor
open Go.RowKit
set_option linter.unusedVariables false
variable {P : Program} {X : En} {base N : Nat} {S : Nat → Prop} {tb : Tab} {F : Fence} {n : Nat}
def WkT(σ:List (Nat×Option Nat)):T→T→Prop
 | _,.un=>True
 | .v x,.v y=>x=y∨(x.nz=y∧y=y)
 | .v x,.own k' _ ys=>x=.nils∧ys=[]∧lk k' σ=some none
 | .own k e xs,.own k' e' ys=>e=e'∧xs=ys∧lk k' σ=some (some k)
 | .own _ _ xs,.v y=>y=.sl xs
 | .ptr i o,.ptr j p=>i=j∧o=p
 | .ro a,.ro b=>a=b
 | .fn f cs,.fn g ds=>f=g∧LeTs cs ds∧T.noKs ds=true
 | _,_=>False
def WkTs(σ:List (Nat×Option Nat)):List T→List T→Prop
 | [],[]=>True
 | x::xs,y::ys=>WkT σ x y∧WkTs σ xs ys
 | _,_=>False
def WkE(σ:List (Nat×Option Nat))(st:St):List (Nat×T)→Prop
 | []=>True
 | p::r=>WkT σ (tget st.env p.1) p.2∧WkE σ st r
def WkB(σ:List (Nat×Option Nat))(st:St):List (Nat×List T)→Prop
 | []=>True
 | p::r=>(match lk p.1 st.bs with
  | some cs=>WkTs σ cs p.2
  | none=>False)∧WkB σ st r
def WkL(σ:List (Nat×Option Nat))(st:St):List (Nat×Option Nat)→Prop
 | []=>True
 | p::r=>(match p.2 with
  | none=>True
  | some e=>match lk p.1 σ with
   | some none=>True
   | some (some k)=>lget st.lv k=some e
   | none=>False)∧WkL σ st r
def injσ:List (Nat×Option Nat)→Bool
 | []=>true
 | p::r=>(match p.2 with
  | none=>true
  | some k=>r.all fun q=>match q.2 with
   | none=>true
   | some k'=> !Nat.beq k k')&&injσ r
def Wk(σ:List (Nat×Option Nat))(st st':St):Prop:=st'.n=st.n∧injσ σ=true∧WkE σ st st'.env∧WkB σ st st'.bs∧WkL σ st st'.lv
theorem lk_mem{β:Type}{n:Nat}{x:β}:∀{l:List (Nat×β)},lk n l=some x→(n,x)∈l
 | [],h=>by cases h
 | p::r,h=>by
  unfold lk at h
  split at h
  ·rename_i hb
   have:=Nat.eq_of_beq_eq_true hb
   cases h
   subst this
   exact List.mem_cons_self
  ·exact List.mem_cons_of_mem _ (lk_mem h)
theorem injσ_ne:∀{σ:List (Nat×Option Nat)},injσ σ=true→∀{a b k:Nat},lk a σ=some (some k)→lk b σ=some (some k)→a=b
 | [],_,_,_,_,h,_=>by cases h
 | p :: r, hi, a, b, k, ha, hb => by
  rw[injσ,Bool.and_eq_true] at hi
  by_cases h1:a=p.1
  ·subst h1
   rw[show p::r=(p.1,p.2)::r from rfl,lk_cons_eq] at ha
   by_cases h2:b=p.1
   ·exact h2.symm
   ·rw[show p::r=(p.1,p.2)::r from rfl,lk_cons_ne _ _ h2] at hb
    have h3:=hi.1
    cases ha':p.2 with
    | none=>rw[ha'] at ha;cases ha
    | some k0=>
     rw[ha'] at ha h3
     cases ha
     have:=List.all_eq_true.1 h3 _ (lk_mem hb)
     simp at this
  ·rw[show p::r=(p.1,p.2)::r from rfl,lk_cons_ne _ _ h1] at ha
   by_cases h2:b=p.1
   ·subst h2
    rw[show p::r=(p.1,p.2)::r from rfl,lk_cons_eq] at hb
    have h3:=hi.1
    cases hb':p.2 with
    | none=>rw[hb'] at hb;cases hb
    | some k0=>
     rw[hb'] at hb h3
     cases hb
     have:=List.all_eq_true.1 h3 _ (lk_mem ha)
     simp at this
   ·rw[show p::r=(p.1,p.2)::r from rfl,lk_cons_ne _ _ h2] at hb
    exact injσ_ne hi.2 ha hb
def Gh.ren (g:Gh)(σ:List (Nat×Option Nat)):Gh:={g with κ:=fun k=>match lk k σ with
 | some (some j)=>g.κ j
 | _=>.slice none 0 0}
theorem WkT.rep {w:World}{g:Gh}{σ:List (Nat×Option Nat)}{t t':T}{v:Value}(h:WkT σ t t')(r:RepT P w g t v):RepT P w (g.ren σ) t' v:=by
 have base:∀t':T,t'.noK=true→RepT P w g t' v→RepT P w (g.ren σ) t' v:=fun t' hk r=>
  RepT.mono (w:=w) (g:=g) (g':=g.ren σ) (Same.refl _ _) t' v (fun _ _=>rfl) (fun k hk'=>by rw[noK_hasK t' k hk] at hk';cases hk') r
 cases t' with
 | un=>trivial
 | v y=>
  cases t with
  | v x=>
   rcases h with rfl | ⟨rfl,_⟩
   ·exact r
   ·exact nz_rep r
  | own k e xs=>rw[show y=_ from h];exact r.1
  | _=>cases h
 | own k' e' ys=>
  cases t with
  | v x=>
   obtain⟨rfl,rfl,hσ⟩:=h
   refine⟨⟨none,0,r,Nat.le_refl _,fun e=>absurd rfl e⟩,?_,fun c hc=>by cases hc⟩
   show v=match lk k' σ with | some (some j)=>g.κ j | _=>.slice none 0 0
   rw[hσ]
   exact r
  | own k e xs=>
   obtain⟨rfl,rfl,hσ⟩:=h
   refine⟨r.1,?_,r.2.2⟩
   show v=match lk k' σ with | some (some j)=>g.κ j | _=>.slice none 0 0
   rw[hσ]
   exact r.2.1
  | _=>cases h
 | ptr j p=>
  cases t with
  | ptr i o=>obtain⟨rfl,rfl⟩:=h;exact r
  | _=>cases h
 | ro b=>
  cases t with
  | ro a=>rw[WkT] at h;subst h;exact r
  | _=>cases h
 | fn f ds=>
  cases t with
  | fn f' cs=>
   obtain⟨rfl,h1,h2⟩:=h
   obtain⟨us,e,r⟩:=r
   exact base _ h2 ⟨us,e,LeTs.rep cs ds us.toList h1 r⟩
  | _=>cases h
 | tup l=>cases t <;> cases h
 | sub k m=>cases t <;> cases h
theorem WkTs.length {σ:List (Nat×Option Nat)}:∀{l m:List T},WkTs σ l m→l.length=m.length
 | [],[],_=>rfl
 | _::_,_::_,h=>by rw[List.length_cons,List.length_cons,h.2.length]
 | [],_::_,h=>h.elim
 | _::_,[],h=>h.elim
theorem WkTs.get {σ:List (Nat×Option Nat)}:∀{l m:List T} {i:Nat} {t':T},WkTs σ l m→m[i]? =some t'→∃t,l[i]? =some t∧WkT σ t t'
 | [],[],_,_,_,h=>by simp at h
 | [],_::_,_,_,h,_=>by cases h
 | _::_,[],_,_,h,_=>by cases h
 | x::xs,y::ys,0,t',h,hi=>by simp at hi;subst hi;exact⟨x,rfl,h.1⟩
 | x::xs,y::ys,i+1,t',h,hi=>by
  obtain⟨t,h1,h2⟩:=h.2.get (i:=i) (by simpa using hi)
  exact⟨t,by simpa using h1,h2⟩
theorem WkE.at {σ:List (Nat×Option Nat)}{st:St}:∀{l:List (Nat×T)} {p:Nat×T},WkE σ st l→p∈l→WkT σ (tget st.env p.1) p.2
 | [],_,_,h=>by cases h
 | q::r,p,h,hp=>by
  rcases List.mem_cons.1 hp with rfl | hp
  ·exact h.1
  ·exact h.2.at hp
theorem WkB.at {σ:List (Nat×Option Nat)}{st:St}:∀{l:List (Nat×List T)} {p:Nat×List T},WkB σ st l→p∈l→∃cs,lk p.1 st.bs=some cs∧WkTs σ cs p.2
 | [],_,_,h=>by cases h
 | q::r,p,h,hp=>by
  rcases List.mem_cons.1 hp with rfl | hp
  ·have h1:=h.1
   split at h1
   ·rename_i cs hcs;exact⟨cs,hcs,h1⟩
   ·exact h1.elim
  ·exact h.2.at hp
theorem WkL.at {σ:List (Nat×Option Nat)}{st:St}:∀{l:List (Nat×Option Nat)} {k e:Nat},WkL σ st l→(k,some e)∈l→lk k σ=some none∨∃j,lk k σ=some (some j)∧lget st.lv j=some e
 | [],_,_,_,h=>by cases h
 | q::r,k,e,h,hp=>by
  rcases List.mem_cons.1 hp with rfl | hp
  ·have h1:=h.1
   dsimp only at h1
   split at h1
   ·rename_i h2;exact .inl h2
   ·rename_i j h2;exact .inr ⟨j,h2,h1⟩
   ·exact h1.elim
  ·exact h.2.at hp
theorem lget_mem{lv:List (Nat×Option Nat)}{k e:Nat}(h:lget lv k=some e):(k,some e)∈lv:=by
 unfold lget at h
 split at h
 ·rename_i hk;cases h;exact lk_mem hk
 ·cases h
theorem Hd.wk {st st':St}{a:Act}{w:World}{g:Gh}{σ:List (Nat×Option Nat)}(hd:Hd P X base S st a w g)(h:Wk σ st st'):Hd P X base S st' a w (g.ren σ)∧Stp X base S N w g w (g.ren σ):=by
 obtain⟨h1,h2,h3,h4,h5⟩:=h
 have hK:∀i,isK st'.bs i→isK st.bs i:=fun i hi=>by
  unfold isK at*
  obtain⟨cs,hcs⟩:=Option.isSome_iff_exists.1 hi
  obtain⟨cs0,e0,_⟩:=h4.at (lk_mem hcs)
  dsimp only at e0
  rw[e0];rfl
 have hlv:∀{k e},lget st'.lv k=some e→(lk k σ=some none∧(g.ren σ).κ k=.slice none 0 0)∨∃j,lk k σ=some (some j)∧lget st.lv j=some e∧(g.ren σ).κ k=g.κ j:=fun {k e} hk=>by
  rcases h5.at (lget_mem hk) with h | ⟨j,h,hj⟩
  ·exact .inl ⟨h,by simp[Gh.ren,h]⟩
  ·exact .inr ⟨j,h,hj,by simp[Gh.ren,h]⟩
 refine⟨⟨hd.sz.trans h1.symm,fun t=>?_,⟨?_,fun hi=>hd.mm.frz (hK _ hi),fun hi=>hd.mm.bxL (hK _ hi),fun hi=>hd.mm.bxE (hK _ hi),fun hi=>hd.mm.loc (hK _ hi),fun hi=>hd.mm.lt (hK _ hi),fun hi hj=>hd.mm.inj (hK _ hi) (hK _ hj),?_,?_,hd.mm.Lc,fun hi=>hd.mm.bc (hK _ hi),?_⟩,hd.E,hd.le⟩,⟨Upd.refl _ _,Same.refl _ _,.inl,fun _=>rfl,fun h _=>h⟩⟩
 ·unfold tget
  cases ht:lk t st'.env with
  | none=>trivial
  | some x=>exact(h3.at (lk_mem ht)).rep (hd.env t)
 ·intro i cs' hi j c' hj
  obtain⟨cs,e0,hw⟩:=h4.at (lk_mem hi)
  obtain⟨c,hc,hwt⟩:=hw.get hj
  obtain⟨u,hu,hr,ho⟩:=hd.mm.box e0 hc
  exact⟨u,hu,hwt.rep hr,ho⟩
 ·intro k e hk
  rcases hlv hk with⟨_,e1⟩ | ⟨j,_,hj,e1⟩
  ·rw[e1]
   exact⟨0,[],World.ownsRow_nil w base e _,fun b hb=>by cases hb⟩
  ·rw[e1]
   obtain⟨n,vals,o1,o2⟩:=hd.mm.own hj
   exact⟨n,vals,o1,fun b hb=>⟨(o2 b hb).1,fun i hi=>(o2 b hb).2 i (hK i hi)⟩⟩
 ·intro k k' e e' hk hk' hne
  rcases hlv hk with⟨_,e1⟩ | ⟨j,hj1,hj,e1⟩
  ·rw[e1];exact .inl rfl
  ·rcases hlv hk' with⟨_,e2⟩ | ⟨j',hj1',hj',e2⟩
   ·rw[e1,e2]
    cases hb:(g.κ j).ownBlock with
    | none=>exact .inl rfl
    | some b=>exact .inr (by simp[Value.ownBlock])
   ·rw[e1,e2]
    refine hd.mm.ownInj hj hj' fun e=>hne ?_
    subst e
    exact injσ_ne h2 hj1 hj1'
 ·intro k e b hk hb
  rcases hlv hk with⟨_,e1⟩ | ⟨j,hj1,hj,e1⟩
  ·rw[e1] at hb;cases hb
  ·rw[e1] at hb;exact hd.mm.ownE hj hb
def inB(g:Gh)(n b:Nat):Prop:=∃j,j < n∧b=(g.ρ j).1
def ItM(P:Program)(X:En)(f:FuncId)(css:List (List T))(caps:List T)(ys:List (List V))(css':List (List T)):Prop:=
 (∀(vs:Array Value) (w:World),(callFunc f vs).run P w=.ok (.enter f vs) w)∧
 ∀ (l0 : Nat) (g : Gh) (cvs : List Value) (w0 : World) (J : Option Nat → (Nat → Prop) → World → Prop),
  X.E w0→(∀{b o},g.L b o→∃u,w0.cell? ⟨b,o,none⟩=some u)→MemB P X w0 g css→RepTs P w0 g caps cvs→
  J (some 0) (inB g css.length) w0→
  (∀i Z W W',J i Z W→Upd Z W W'→MapsK W W'→J i (fun b=>Z b∨(W.heap.size≤b∧b < W'.heap.size)) W')→
  (∀i Z Z' W,J i Z W→(∀b,Z' b→Z b)→J i Z' W)→
  (∀i Z W,J i Z W→X.E W∧Same g.L w0 g.L W∧w0.heap.size≤W.heap.size∧(∀b,Z b→(w0.heap.size≤b∨inB g css.length b)∧b < W.heap.size))→
  (∀(i:Nat) (y:List V) Z Z' W (L':Lv) (args:List Value),ys[i]? =some y→J (some i) Z W→RepW W L' y args→(∀{b o},L' b o→g.L b o∨(Z b∧¬inB g css.length b))→(∀b,Z' b→Z b)→(∀{b o},L' b o→¬Z' b)→
   ∃fn tmps assign body,(Instr.yield l0 args.toArray).run P W=.ok (.round l0 fn tmps assign body) W∧RoundIn Fence.wide 0 P l0 fn tmps assign body W (fun e W'=>(Upd (fun b=>¬Z' b) W W'∧MapsK W W')∧((e=.returned (.bool true)∧J (some (i+1)) Z' W')∨(e=.returned (.bool false)∧J none Z' W'))))→
  Calls P f (#[.func (.yield l0) #[] #[]]++cvs.toArray) w0 fun e W'=>(∃v,e=.returned v)∧((∃Z L',J (some ys.length) Z W'∧(∀b,inB g css.length b→Z b)∧(∀{b o},L' b o→g.L b o∨Z b)∧(∀{b o},L' b o→∃u,W'.cell? ⟨b,o,none⟩=some u)∧MemB P X W' {g with L:=L'} css')∨∃Z,J none Z W')
def It(P:Program)(X:En)(f:FuncId)(caps:List T)(ys:List (List V)):Prop:=ItM P X f [] caps ys []
def seqQ(K:St→Prop)(Q:Exit→St→Prop):Exit→St→Prop
 | .normal,st=>K st
 | e,st=>Q e st
def reOk(bx:List Nat)(css css':List (List T))(st:St):Option (Nat×Nat×Nat×List T)→Prop
 | none=>True
 | some (q,d,s,cs')=>bx[q]? =some d∧css'[q]? =some cs'∧T.pures cs'=true∧css'.length=css.length∧tget st.env s=.ptr d 0
def reI(re:Option (Nat×Nat×Nat×List T))(st:St):Prop:=match re with
 | none=>True
 | some (_,d,s,_)=>tget st.env s=.ptr d 0
def reE(re:Option (Nat×Nat×Nat×List T))(st:St):St:=match re with
 | none=>st
 | some (_,d,_,cs')=>st.bset d cs'
def offB(bx:List Nat)(bs:List (Nat×List T)):Bool:=bx.all fun i=>(lk i bs).isNone
def blockQ(id:Nat)(Q:Exit→St→Prop):Exit→St→Prop
 | .exit j,st=>match Nat.beq j id with
  | true=>Q .normal st
  | false=>Q (.exit j) st
 | e,st=>Q e st
def loopQ{α:Type}(I:α→St)(inv:α→Prop)(rk:α→Nat)(x:α)(Q:Exit→St→Prop):Exit→St→Prop
 | .normal,st=>∃y σ,inv y∧rk y < rk x∧Wk σ st (I y)
 | e,st=>Q e st
def codeW:Code→List Nat
 | .region _ ops _=>ops.toList.filterMap (·.dst)
 | .seq a b=>codeW a++codeW b
 | .cond _ a b=>codeW a++codeW b
 | .block _ b=>codeW b
 | .loop b=>codeW b
 | .scope b=>codeW b
 | .rangeFunc _ ps a b=>ps.toList++(codeW a++codeW b)
 | _=>[]
def freeE(ws:List Nat):List (Nat×T)→Bool
 | []=>true
 | p::r=> !(ws.any fun t=>Nat.beq t p.1)&&freeE ws r
def rndQ(ws:List Nat)(ok:Prop)(next:St)(Q:Exit→St→Prop):Exit→St→Prop
 | .normal,st=>ok∧∃σ,Wk σ st next
 | .exit j,st=>∃σ st',Wk σ st st'∧freeE ws st'.env=true∧Q (.exit j) st'
 | .ret,st=>∃σ st',Wk σ st st'∧freeE ws st'.env=true∧Q .ret st'
 | _,_=>False
def putsT:List Nat→List V→List (Nat×T)→List (Nat×T)
 | p::ps,v::vs,env=>putsT ps vs ((p,.v v)::env)
 | _,_,env=>env
def St.puts:St→List Nat→List V→St
 | ⟨n,env,bs,lv⟩,ps,vs=>⟨n,putsT ps vs env,bs,lv⟩
def isMk:Op→Bool
 | .makeMap _ _=>true
 | _=>false
def T.toVF:T→Option V
 | .fn f []=>some (.raw (.func (.func f) #[] #[]))
 | t=>t.toV
structure Pend where
 d:Nat
 t:Nat
 ks:List V
 vs:List V
def frcPend(ks vs:List V)(k:List V→List V→Prop):Prop:=frcVs ks fun ks'=>frcVs vs fun vs'=>k ks' vs'
theorem frcPend_eq(ks vs:List V)(k:List V→List V→Prop):frcPend ks vs k=k ks vs:=by
 unfold frcPend
 rw[frcVs_eq,frcVs_eq]
def semLit(tb:Tab)(C:Con)(ops:List Oper):Option Pend→List Oper→St→(St→Prop)→Prop
 | none,[],st,K=>K st
 | some _,[],_,_=>False
 | none,o::r,st,K=>match o.op with
  | .makeMap t none=>match o.guard,o.dst with
   | none,some d=>match Nat.blt d st.n,lk t tb.mps with
    | true,some _=>frcSt (st.put (some d) .un) fun st'=>semLit tb C ops (some ⟨d,t,[],[]⟩) r st' K
    | _,_=>False
   | _,_=>False
  | _=>semG tb C ops o st fun st'=>semLit tb C ops none r st' K
 | some p,o::r,st,K=>match o.guard with
  | some _=>False
  | none=>match o.op with
   | .insert t (.tmp d) k v=>match Nat.beq d p.d&&Nat.beq t p.t,o.dst with
    | true,none=>match(st.ev k).toV,(st.ev v).toVF,lk t tb.mps with
     | some kv,some vv,some q=>match keyOk q.1 kv&&p.ks.all (keyOk q.1)&&Nat.beq p.ks.length p.vs.length with
      | true=>match mget kv p.ks p.vs with
       | none=>frcPend (p.ks++[kv]) (p.vs++[vv]) fun ks vs=>semLit tb C ops (some ⟨p.d,p.t,ks,vs⟩) r st K
       | some _=>False
      | false=>False
     | _,_,_=>False
    | _,_=>False
   | .move (.tmp d)=>match Nat.beq d p.d with
    | true=>frcSt (st.put (some d) (.v (.mp p.ks p.vs))) fun st'=>semG tb C ops o st' fun st'=>semLit tb C ops none r st' K
    | false=>False
   | op=>match quietOp op&& !Op.isLoad op,o.dst with
    | true,some d=>match Nat.beq d p.d with
     | true=>False
     | false=>semG tb C ops o st fun st'=>semLit tb C ops (some p) r st' K
    | _,_=>False
def marks(ms:List Nat):List Deferred:=ms.map fun r=>{target:=.collected r,args:=#[]}
def MarksOk(w0:World)(w:World)(ms:List Nat):Prop:=ms.Nodup∧∀r∈ms,w0.heap.size≤r∧w.heap[r]? =some (.deferred (some []))
def AftR(P:Program)(X:En)(base:Nat)(S:Nat→Prop)(N:Nat)(Wr:Nat→Prop)(a:Act)(w:World)(g:Gh)(Q:Exit→St→Prop):Exit→Act→World→Prop:=fun e a' w'=>
 ∃st' g',Q e st'∧Hd P X base S st' a' w' g'∧Stp X base S N w g w' g'∧st'.n=N∧(∀t,¬Wr t→a'.tmps.getD t undef=a.tmps.getD t undef)∧∃ms,a'.defers=marks ms++a.defers∧MarksOk w w' ms
def Frn(P:Program)(X0:En)(c:Code)(st st':St):Prop:=∀(X:En),X.Le X0→∀(base N:Nat) (S:Nat→Prop) (F:Fence) (n:Nat) (Wr:Nat→Prop) (a:Act) (w:World) (g:Gh),Open F→(∀t∈codeW c,Wr t)→(∀l,F.round=some l→∃r,w.heap[l]? =some (.loop r))→Hd P X base S st a w g→st.n=N→
 c.wpIn F n P (AftR P X base S N Wr a w g fun e s=>e=.normal∧s=st') a w
def isRng:Op→Bool
 | .range _ _=>true
 | _=>false
def isFrn:Code→Bool
 | .seq (.region _ ops _) (.block _ (.loop _))=>ops.toList.any fun o=>isRng o.op
 | _=>false
def aCode(P:Program)(X:En)(tb:Tab):Code→(Exit→St→Prop)→St→Prop
 | .skip,Q,st=>Q .normal st
 | .region _ ops draw,Q,st=>match draw with
  | false=>match ops.toList.any (fun o=>isMk o.op) with
   | false=>semOps tb (Cn P X) ops.toList ops.toList st (Q .normal)
   | true=>semLit tb (Cn P X) ops.toList none ops.toList st (Q .normal)
  | true=>∃sch:Option (List Nat),regionOk ops (sch.getD (List.range ops.size))=true∧semSch tb (Cn P X) ops.toList (sch.getD (List.range ops.size)) st (Q .normal)
 | .seq x y,Q,st=>match isFrn x with
  | false=>aCode P X tb x (seqQ (fun st'=>aCode P X tb y Q st') Q) st
  | true=>∃st',Frn P X x st st'∧aCode P X tb y Q st'
 | .cond c x y,Q,st=>match st.ev c with
  | .v (.bool true)=>aCode P X tb x Q st
  | .v (.bool false)=>aCode P X tb y Q st
  | _=>False
 | .block id b,Q,st=>aCode P X tb b (blockQ id Q) st
 | .loop b,Q,st=>∃(α:Type) (I:α→St) (inv:α→Prop) (rk:α→Nat),(∃x σ,inv x∧Wk σ st (I x))∧∀x,inv x→aCode P X tb b (loopQ I inv rk x Q) (I x)
 | .rangeFunc fo ps x y,Q,st=>match st.ev fo with
  | .fn f caps=>match T.anyP caps with
   | false=>∃(caps':List T) (ys:List (List V)) (I:Nat→St) (inv:Nat→Prop),It P X f caps' ys∧LeTs caps caps'∧T.pures caps'=true∧(inv 0∧∃σ,Wk σ st (I 0))∧(∀i,freeE (ps.toList++(codeW x++codeW y)) (I i).env=true)∧(∀p∈ps.toList,p < st.n)∧
    (∀(i:Nat) (v:List V),ys[i]? =some v→inv i→v.length=ps.size∧aCode P X tb x (seqQ (fun st'=>aCode P X tb y (rndQ (ps.toList++(codeW x++codeW y)) (inv (i+1)) (I (i+1)) Q) st') (fun _ _=>False)) ((I i).puts ps.toList v))∧(inv ys.length→Q .normal (I ys.length))
   | true=>∃(bx:List Nat) (css0 css:List (List T)) (caps':List T) (ys:List (List V)) (css':List (List T)) (re:Option (Nat×Nat×Nat×List T)) (I:Nat→St) (inv:Nat→Prop),ItM P X f css caps' ys css'∧nodupB bx=true∧css0.length=css.length∧bxOk ((I 0).bsets bx css0) bx bx css∧ArgLes bx caps caps'∧reOk bx css css' st re∧(inv 0∧∃σ,Wk σ st ((I 0).bsets bx css0))∧(∀i,offB bx (I i).bs=true∧reI re (I i))∧(∀i,freeE (ps.toList++(codeW x++codeW y)) (I i).env=true)∧(∀p∈ps.toList,p < st.n)∧
    (∀(i:Nat) (v:List V),ys[i]? =some v→inv i→v.length=ps.size∧aCode P X tb x (seqQ (fun st'=>aCode P X tb y (rndQ (ps.toList++(codeW x++codeW y)) (inv (i+1)) (I (i+1)) Q) st') (fun _ _=>False)) ((I i).puts ps.toList v))∧(inv ys.length→Q .normal (reE re (I ys.length)))
  | _=>False
 | .exit id,Q,st=>Q (.exit id) st
 | .ret,Q,st=>Q .ret st
 | .label _,Q,st=>Q .normal st
 | .goto l,Q,st=>Q (.goto l) st
 | _,_,_=>False
theorem MarksOk.nil (w w':World):MarksOk w w' []:=⟨List.nodup_nil,fun r hr=>by cases hr⟩
theorem AftR.next {Wr:Nat→Prop}{a a1:Act}{w w1:World}{g g1:Gh}{Q:Exit→St→Prop}(h:Stp X base S N w g w1 g1)(hk:∀t,¬Wr t→a1.tmps.getD t undef=a.tmps.getD t undef)(hm:∃ms,a1.defers=marks ms++a.defers∧MarksOk w w1 ms){e:Exit}{a2:Act}{w2:World}(k:AftR P X base S N Wr a1 w1 g1 Q e a2 w2):AftR P X base S N Wr a w g Q e a2 w2:=by
 obtain⟨st',g',q1,q2,q3,q4,q5,ms2,q6,q7,q8⟩:=k
 obtain⟨ms1,m1,m2,m3⟩:=hm
 refine⟨st',g',q1,q2,h.trans q3,q4,fun t ht=>(q5 t ht).trans (hk t ht),ms2++ms1,by rw[q6,m1];simp[marks],List.nodup_append.2 ⟨q7,m2,fun r hr r' hr'=>?_⟩,fun r hr=>?_⟩
 ·rintro rfl
  have h1:=(q8 r hr).1
  have h2:=(Array.getElem?_eq_some_iff.1 (m3 r hr').2).1
  omega
 ·rcases List.mem_append.1 hr with hr | hr
  ·exact⟨Nat.le_trans h.upd.size (q8 r hr).1,(q8 r hr).2⟩
  ·exact⟨(m3 r hr).1,q3.obj (m3 r hr).2 rfl⟩
theorem ops_wp{X0:En}(hX:X.Le X0)(hF:Open F)(hT:TabOk P tb){ops:Array Oper}{K:St→Prop}{a0:Act}{w0:World}{g0:Gh}{Q:Exit→Act→World→Prop}{Wr:Nat→Prop}(hWr:∀(j:Nat) (o:Oper) (d:Nat),ops[j]? =some o→o.dst=some d→Wr d)
  (hQn:∀a w st g,K st→Hd P X base S st a w g→Stp X base S N w0 g0 w g→a.defers=a0.defers→st.n=N→(∀t,¬Wr t→a.tmps.getD t undef=a0.tmps.getD t undef)→Q .normal a w):
  ∀(m k:Nat) (st:St) (a:Act) (w:World) (g:Gh),m+k=ops.size→semOps tb (Cn P X0) ops.toList (ops.toList.drop k) st K→Hd P X base S st a w g→Stp X base S N w0 g0 w g→a.defers=a0.defers→st.n=N→(∀t,¬Wr t→a.tmps.getD t undef=a0.tmps.getD t undef)→wpOpsIn F n P ops Q (List.range' k m) a w:=by
 intro m
 induction m with
 | zero=>
  intro k st a w g hk hs hd hst hdf hn hkp
  rw[List.drop_eq_nil_of_le (by rw[Array.length_toList];omega)] at hs
  exact hQn a w st g hs hd hst hdf hn hkp
 | succ m ih=>
  intro k st a w g hk hs hd hst hdf hn hkp
  rw[List.range'_succ,wpOpsIn_cons]
  have hlt:k < ops.size:=by omega
  rw[List.drop_eq_getElem_cons (by rw[Array.length_toList];exact hlt)] at hs
  unfold semOps at hs
  have h1:=semG_wpIn hX hF hT (n:=n) (N:=N) (ops:=ops) Q hn hd hs
  have hi:ops[k]? =some ops.toList[k]:=by rw[Array.getElem?_eq_getElem hlt];simp
  have next:∀a' w',Aft P X base S N st.lv (bad (ops.toList[k]) a) (ops.toList[k]).dst a w g (fun st'=>semOps tb (Cn P X0) ops.toList (ops.toList.drop (k+1)) st' K) a' w'→wpOpsIn F n P ops Q (List.range' (k+1) m) a' w':=fun a' w' ⟨st',g',q1,q2,q3,q4,q5,q6,q7⟩=>
   ih (k+1) st' a' w' g' (by omega) q1 q2 (hst.trans q3) (q4.trans hdf) (by have e1:=q2.sz;have e2:=hd.sz;omega) (fun t ht=>(q7 t (fun e=>ht (hWr k _ t hi e))).trans (hkp t ht))
  unfold wpOpIn
  simp only[hi]
  split
  ·rename_i hw
   rw[if_pos hw] at h1
   exact Oper.wpIn_mono next h1
  ·rename_i hw
   rw[if_neg hw] at h1
   exact⟨h1.1,next _ _ h1.2⟩
theorem Stp.drew {w:World}{g:Gh}:Stp X base S N w g {w with drawn:=w.drawn+1} g:=⟨⟨rfl,rfl,rfl,Nat.le_refl _,fun _ _ _=>rfl⟩,⟨fun _ _ _ h k=>⟨h,k⟩,fun _ _ h _=>h⟩,.inl,fun _=>rfl,fun h _=>h⟩
theorem Hd.drew {st:St}{a:Act}{w:World}{g:Gh}(hd:Hd P X base S st a w g):Hd P X base S st a {w with drawn:=w.drawn+1} g:=by
 have hs:Same g.L w g.L {w with drawn:=w.drawn+1}:=⟨fun _ _ _ h k=>⟨h,k⟩,fun _ _ h _=>h⟩
 refine⟨hd.sz,fun t=>(hd.env t).same hs rfl rfl,⟨?_,hd.mm.frz,hd.mm.bxL,hd.mm.bxE,hd.mm.loc,hd.mm.lt,hd.mm.inj,hd.mm.own,hd.mm.ownInj,hd.mm.Lc,hd.mm.bc,hd.mm.ownE⟩,X.upd (S:=fun _=>False) (w:=w) ⟨rfl,rfl,rfl,Nat.le_refl _,fun _ _ _=>rfl⟩ (fun _ h=>h.elim) hd.E,hd.le⟩
 intro i cs hi j c hj
 obtain⟨u,hu,hr,h1⟩:=hd.mm.box hi hj
 exact⟨u,hu,hr.same hs rfl rfl,h1⟩
theorem MapsK.putObj {W:World}{l:Nat}{o o0:Obj}(h:W.heap[l]? =some o0)(h0:isMapO o0=false):MapsK W (W.putObj l o):=fun k o' h1 h2=>by
 by_cases e:k=l
 ·subst e;rw[h] at h1;cases h1;rw[h0] at h2;cases h2
 ·exact(World.putObj_heap_other e).trans h1
theorem nomap_alloc{w:World}{o o':Obj}{k:Nat}(h:(w.alloc o).heap[k]? =some o')(h1:isMapO o'=true)(h0:isMapO o=false):w.heap[k]? =some o':=by
 by_cases hk:k < w.heap.size
 ·rwa [heap_alloc_old _ _ hk] at h
 ·have hs:k < (w.alloc o).heap.size:=(Array.getElem?_eq_some_iff.1 h).1
  have:k=w.heap.size:=by simp at hs;omega
  subst this;rw[heap_alloc_new] at h;cases h;rw[h0] at h1;cases h1
theorem Hd.upS {st:St}{a:Act}{w w':World}{g:Gh}(hd:Hd P X base S st a w g)(hs:Same g.L w g.L w')(hsz:w.heap.size≤w'.heap.size)(hb:∀i,isK st.bs i→w'.heap[(g.ρ i).1]? =w.heap[(g.ρ i).1]?)(ho:∀k e b,lget st.lv k=some e→(g.κ k).ownBlock=some b→w'.heap[b]? =w.heap[b]?)(hE:X.E w'):Hd P X base S st a w' g:=by
 refine⟨hd.sz,fun t=>(hd.env t).same hs rfl rfl,⟨?_,?_,hd.mm.bxL,hd.mm.bxE,hd.mm.loc,fun hi=>Nat.lt_of_lt_of_le (hd.mm.lt hi) hsz,hd.mm.inj,?_,hd.mm.ownInj,fun {b o} h=>?_,fun {i} hi=>?_,hd.mm.ownE⟩,hE,Nat.le_trans hd.le hsz⟩
 ·intro i cs hi j c hj
  obtain⟨u,hc,hr,h1⟩:=hd.mm.box hi hj
  exact⟨u,(cell_old (hb i (by unfold isK;rw[hi];rfl)) _).trans hc,hr.same hs rfl rfl,h1⟩
 ·intro i hi j
  rw[frozen_old (hb i hi)]
  exact hd.mm.frz hi j
 ·intro k e hk
  obtain⟨n,vals,o1,o2⟩:=hd.mm.own hk
  refine⟨n,vals,⟨o1.1,?_⟩,o2⟩
  rcases o1.2 with h | ⟨gg,cap,cur,h0,h1,h2,h3⟩
  ·exact .inl h
  ·exact .inr ⟨gg,cap,cur,h0,h1,(ho k e gg hk (by rw[h0];rfl)).trans h2,h3⟩
 ·obtain⟨u,hc⟩:=hd.mm.Lc h
  exact⟨u,(hs.c b o u h hc).2⟩
 ·rw[hb i hi]
  exact hd.mm.bc hi
theorem Hd.upd {st:St}{a:Act}{w w':World}{g:Gh}{Z:Nat→Prop}(hd:Hd P X base S st a w g)(hu:Upd Z w w')(hmk:MapsK w w')(hZb:∀i,isK st.bs i→¬Z (g.ρ i).1)(hZL:∀{b o},g.L b o→¬Z b)(hZo:∀k e b,lget st.lv k=some e→(g.κ k).ownBlock=some b→¬Z b)(hZE:∀b,Z b→¬X.Eb b):Hd P X base S st a w' g:=
 hd.upS ⟨fun b o u h1 h2=>⟨h1,hu.cell h2 (hZL h1)⟩,hmk⟩ hu.size (fun i hi=>hu.block _ (hd.mm.lt hi) (hZb i hi)) (fun k e b hk hb=>by
  obtain⟨n,vals,o1,_⟩:=hd.mm.own hk
  exact hu.block _ (o1.lt b hb).2 (hZo k e b hk hb)) (X.upd hu hZE hd.E)
theorem freeE_at{ws:List Nat}:∀{env:List (Nat×T)} {p:Nat×T},freeE ws env=true→p∈env→p.1∉ws
 | [],_,_,h=>by cases h
 | q::r,p,h,hp=>by
  rw[freeE,Bool.and_eq_true] at h
  rcases List.mem_cons.1 hp with rfl | hp
  ·intro hm
   have h1:=h.1
   rw[Bool.not_eq_true',←Bool.not_eq_true] at h1
   exact h1 (List.any_eq_true.2 ⟨_,hm,Nat.beq_refl _⟩)
  ·exact freeE_at h.2 hp
theorem Hd.act {st:St}{a a':Act}{w:World}{g:Gh}{ws:List Nat}(hd:Hd P X base S st a w g)(hf:freeE ws st.env=true)(hsz:a'.tmps.size=a.tmps.size)(hk:∀t,t∉ws→a'.tmps.getD t undef=a.tmps.getD t undef):Hd P X base S st a' w g:=by
 refine⟨hsz.trans hd.sz,fun t=>?_,hd.mm,hd.E,hd.le⟩
 have h0:=hd.env t
 unfold tget at h0 ⊢
 cases ht:lk t st.env with
 | none=>trivial
 | some x=>
  rw[ht] at h0
  have hfr:=freeE_at hf (lk_mem ht)
  show RepT P w g x (a'.tmps.getD t undef)
  rw[hk t hfr]
  exact h0
theorem Hd.puts {a:Act}{w:World}{g:Gh}:∀(ps:List Nat) (vs:List V) (us:List Value) (st:St) (a:Act),Hd P X base S st a w g→(∀p∈ps,p < st.n)→vs.length=ps.length→RepW w g.L vs us→Hd P X base S (st.puts ps vs) {a with tmps:=(ps.zip us).foldl (fun t (p:Nat×Value)=>t.setIfInBounds p.1 p.2) a.tmps} w g
 | [],[],us,st,a,hd,_,_,hr=>by rw[show us=[] from hr];exact hd
 | p::ps,v::vs,us,st,a,hd,hp,hl,hr=>by
  obtain⟨u,us',rfl,h1,h2⟩:=hr
  have h3:=hd.put (some p) (t:=.v v) (v:=u) h1
  rw[St.put_lt (hp p (by simp))] at h3
  exact Hd.puts (a:=a) ps vs us' {st with env:=(p,.v v)::st.env} (a.put (some p) u) h3 (fun q hq=>hp q (by simp[hq])) (by simpa using hl) h2
 | [],_::_,_,_,_,_,_,hl,_=>by simp at hl
 | _::_,[],_,_,_,_,_,hl,_=>by simp at hl
theorem foldl_keep:∀(l:List (Nat×Value)) (a:Array Value) (t:Nat),(∀p∈l,p.1≠t)→(l.foldl (fun t (p:Nat×Value)=>t.setIfInBounds p.1 p.2) a).getD t undef=a.getD t undef
 | [],_,_,_=>rfl
 | p::r,a,t,h=>by
  rw[List.foldl_cons,foldl_keep r _ t (fun q hq=>h q (by simp[hq]))]
  simp[Array.getElem?_setIfInBounds_ne (h p (by simp))]
theorem foldl_size:∀(l:List (Nat×Value)) (a:Array Value),(l.foldl (fun t (p:Nat×Value)=>t.setIfInBounds p.1 p.2) a).size=a.size
 | [],_=>rfl
 | p::r,a=>by rw[List.foldl_cons,foldl_size r];simp
def codeOf:Exit→Option Code
 | .exit j=>some (.exit j)
 | .ret=>some .ret
 | _=>none
structure RunJ(P:Program)(X:En)(base:Nat)(S:Nat→Prop)(N:Nat)(a:Act)(w:World)(g:Gh)(lw:Nat)(mk:Option Nat)(C:Nat→Prop)(st:St)(Z:Nat→Prop)(W:World)(g':Gh):Prop where
 hd:Hd P X base S st a W g'
 n:st.n=N
 stp:Stp X base S N w g W g'
 lwle:lw≤W.heap.size
 mark:∀r,mk=some r→w.heap.size≤r∧r < lw∧W.heap[r]? =some (.deferred (some []))
 box:∀i,isK st.bs i→¬Z (g'.ρ i).1
 see:∀{b o},g'.L b o→¬Z b
 own:∀k e b,lget st.lv k=some e→(g'.κ k).ownBlock=some b→¬Z b
 from_:∀b,Z b→((lw≤b∨C b)∧b < W.heap.size)∧¬X.Eb b
 cC:∀b,C b→(S b∨base≤b)∧b < w.heap.size∧∃c t fr,w.heap[b]? =some (.cells c t fr)
theorem RunJ.zw {a:Act}{w:World}{g:Gh}{lw:Nat}{mk:Option Nat}{C:Nat→Prop}{st:St}{Z:Nat→Prop}{W:World}{g':Gh}(h:RunJ P X base S N a w g lw mk C st Z W g')(hwl:w.heap.size≤lw){b:Nat}(hz:Z b):w.heap.size≤b∨∃c t fr,w.heap[b]? =some (.cells c t fr):=
 (h.from_ b hz).1.1.imp (Nat.le_trans hwl) fun e=>(h.cC b e).2.2
theorem RunJ.upd {a:Act}{w:World}{g:Gh}{lw:Nat}{mk:Option Nat}{C:Nat→Prop}{st:St}{Z:Nat→Prop}{W W':World}{g':Gh}(h:RunJ P X base S N a w g lw mk C st Z W g')(hbl:base≤lw)(hwl:w.heap.size≤lw)(hu:Upd Z W W')(hmk:MapsK W W'):RunJ P X base S N a w g lw mk C st (fun b=>Z b∨(W.heap.size≤b∧b < W'.heap.size)) W' g':=by
 refine⟨h.hd.upd hu hmk h.box h.see h.own (fun b hb=>(h.from_ b hb).2),h.n,⟨?_,⟨fun b o u h1 h2=>?_,h.stp.same.m.trans hmk⟩,h.stp.newL,h.stp.rho,fun {k o} hk hc=>?_⟩,Nat.le_trans h.lwle hu.size,fun r hr=>?_,fun i hi=>?_,fun hL=>?_,fun k e b hk hb=>?_,fun b hb=>?_,h.cC⟩
 ·refine h.stp.upd.trans (hu.mono fun b hb=>(h.from_ b hb).1.1.elim (fun e=>.inr (Nat.le_trans hbl e)) fun e=>(h.cC b e).1)
 ·obtain⟨h3,h4⟩:=h.stp.same.c b o u h1 h2
  exact⟨h3,hu.cell h4 (h.see h3)⟩
 ·have h1:=h.stp.obj hk hc
  exact hu.blk h1 (fun hz=>by
   rcases h.zw hwl hz with h2 | ⟨_,_,_,h2⟩
   ·have:=(Array.getElem?_eq_some_iff.1 hk).1;omega
   ·rw[hk] at h2;cases h2;cases hc)
 ·obtain⟨m1,m2,m3⟩:=h.mark r hr
  exact⟨m1,m2,hu.blk m3 (fun hz=>by
   rcases(h.from_ r hz).1.1 with h2 | h2
   ·omega
   ·have:=(h.cC r h2).2.1;omega)⟩
 ·rintro(hz | ⟨hz,_⟩)
  ·exact h.box i hi hz
  ·have:=h.hd.mm.lt hi;omega
 ·rintro(hz | ⟨hz,_⟩)
  ·exact h.see hL hz
  ·have:=h.hd.mm.Llt hL;omega
 ·rintro(hz | ⟨hz,_⟩)
  ·exact h.own k e b hk hb hz
  ·obtain⟨n0,vals,o1,_⟩:=h.hd.mm.own hk
   have:=(o1.lt b hb).2
   omega
 ·rcases hb with hb | ⟨hb,hb2⟩
  ·exact⟨⟨(h.from_ b hb).1.1,Nat.lt_of_lt_of_le (h.from_ b hb).1.2 hu.size⟩,(h.from_ b hb).2⟩
  ·exact⟨⟨.inl (Nat.le_trans h.lwle hb),hb2⟩,fun hE=>by have:=X.lt h.hd.E hE;omega⟩
theorem Hd.see {st:St}{a:Act}{w:World}{g:Gh}{L':Lv}(hd:Hd P X base S st a w g)(hsub:∀{b o},g.L b o→L' b o)(hb:∀{i},isK st.bs i→∀j,¬L' (g.ρ i).1 j)(ho:∀k e b o,lget st.lv k=some e→(g.κ k).ownBlock=some b→L' b o→g.L b o)(hlt:∀{b o},L' b o→∃u,w.cell? ⟨b,o,none⟩=some u):Hd P X base S st a w {g with L:=L'}:=by
 have hs:Same g.L w L' w:=⟨fun b o u h1 h2=>⟨hsub h1,h2⟩,.refl _⟩
 refine⟨hd.sz,fun t=>(hd.env t).same (g':={g with L:=L'}) hs rfl rfl,⟨?_,hd.mm.frz,hb,hd.mm.bxE,hd.mm.loc,hd.mm.lt,hd.mm.inj,?_,hd.mm.ownInj,hlt,hd.mm.bc,hd.mm.ownE⟩,hd.E,hd.le⟩
 ·intro i cs hi j c hj
  obtain⟨u,hu,hr,h1⟩:=hd.mm.box hi hj
  exact⟨u,hu,hr.same (g':={g with L:=L'}) hs rfl rfl,h1⟩
 ·intro k e hk
  obtain⟨n,vals,o1,o2⟩:=hd.mm.own hk
  exact⟨n,vals,o1,fun b hbb=>⟨fun o h=>(o2 b hbb).1 o (ho k e b o hk hbb h),(o2 b hbb).2⟩⟩
theorem pures_mem:∀{l:List T} {t:T},T.pures l=true→t∈l→t.pure=true
 | x::r,t,h,ht=>by
  rw[T.pures,Bool.and_eq_true] at h
  rcases List.mem_cons.1 ht with rfl | ht
  ·exact h.1
  ·exact pures_mem h.2 ht
theorem MemB.below {w w':World}{g:Gh}{css:List (List T)}(h:MemB P X w g css)(hb:Below w.heap.size w w'):MemB P X w' g css:=by
 have hs:Same g.L w g.L w':=.of_below hb
 refine⟨fun {j cs} hj {k c} hk=>?_,fun {j} hj k=>?_,h.bxL,h.bxE,fun hj=>Nat.lt_of_lt_of_le (h.lt hj) hb.size,h.inj,fun {j} hj=>?_⟩
 ·obtain⟨u,h1,h2,h3⟩:=h.box hj hk
  exact⟨u,cell_below h1 hb,h2.same hs rfl rfl,h3⟩
 ·rw[frozen_old (hb.block _ (h.lt hj))];exact h.frz hj k
 ·rw[hb.block _ (h.lt hj)];exact h.bc hj
theorem isK_bset{st:St}{d i:Nat}{cs:List T}:isK (st.bset d cs).bs i↔i=d∨isK st.bs i:=by
 unfold isK St.bset
 dsimp only
 by_cases hj:i=d
 ·subst hj;rw[lk_cons_eq];simp
 ·rw[lk_cons_ne _ _ hj];simp[hj]
theorem RunJ.again {X0:En}{a:Act}{w:World}{g:Gh}{lw:Nat}{mk:Option Nat}{st:St}{Z:Nat→Prop}{W:World}{g':Gh}{L':Lv}{d s:Nat}{cs:List T}{bx:List Nat}{css':List (List T)}{nc q:Nat}(hbl:base≤lw)(h:RunJ P X base S N a w g lw mk (inB (g.of bx) nc) st Z W g')(hL:∀{b o},g.L b o→g'.L b o)(hz:∀b,inB (g.of bx) nc b→Z b)(hL':∀{b o},L' b o→g.L b o∨Z b)(hLc:∀{b o},L' b o→∃u,W.cell? ⟨b,o,none⟩=some u)
  (hm:MemB P X0 W {g.of bx with L:=L'} css') (hq:bx[q]? =some d) (hq':css'[q]? =some cs) (hnc:css'.length=nc) (hp:T.pures cs=true) (hd:lk d st.bs=none) (hs:tget st.env s=.ptr d 0) (ha:a.eval (.tmp s)=.pointer (some ⟨(g.ρ d).1,(g.ρ d).2,none⟩)):
  RunJ P X base S N a w g lw mk (inB (g.of bx) nc) (st.bset d cs) (fun _=>False) W {g' with L:=fun b o=>g'.L b o∨L' b o}:=by
 have hρ:g'.ρ d=g.ρ d:=by
  have h1:=h.hd.env s
  rw[hs] at h1
  have h2:a.eval (.tmp s)=.pointer (some ⟨(g'.ρ d).1,(g'.ρ d).2+0,none⟩):=h1
  rw[ha] at h2
  injection h2 with h2
  injection h2 with h2
  injection h2 with h3 h4
  exact Prod.ext h3.symm h4.symm
 have hρ0:({g.of bx with L:=L'}:Gh).ρ q=g'.ρ d:=(Gh.of_at g hq).trans hρ.symm
 have hql:q < css'.length:=(List.getElem?_eq_some_iff.1 hq').1
 have hC:inB (g.of bx) nc (g'.ρ d).1:=⟨q,by omega,by rw[Gh.of_at g hq,hρ]⟩
 have hZd:=hz _ hC
 have hd0:=h.hd
 have hS:Same g'.L W (fun b o=>g'.L b o∨L' b o) W:=⟨fun b o u h1 h2=>⟨.inl h1,h2⟩,.refl _⟩
 have see:∀{b o},(g'.L b o∨L' b o)→¬g'.L b o→Z b:=fun {b o} h1 h2=>h1.elim (fun h3=>absurd h3 h2) fun h3=>(hL' h3).elim (fun h4=>absurd (hL h4) h2) id
 have bxL0:=hm.bxL (j:=q) hql
 rw[hρ0] at bxL0
 have out:∀{i},isK st.bs i→i≠d→(g'.ρ i).1≠(g'.ρ d).1:=fun {i} hi _ e=>h.box i hi (by rw[e];exact hZd)
 have hne:∀{i},isK st.bs i→i≠d:=fun {i} hi e=>by unfold isK at hi;rw[e,hd] at hi;cases hi
 refine⟨⟨hd0.sz,fun t=>(hd0.env t).same (g':={g' with L:=fun b o=>g'.L b o∨L' b o}) hS rfl rfl,⟨?_,?_,?_,?_,?_,?_,?_,?_,hd0.mm.ownInj,?_,?_,hd0.mm.ownE⟩,hd0.E,hd0.le⟩,h.n,⟨h.stp.upd,⟨fun b o u h1 h2=>⟨.inl (h.stp.same.c b o u h1 h2).1,(h.stp.same.c b o u h1 h2).2⟩,h.stp.same.m⟩,fun {b o} hl=>?_,h.stp.rho,h.stp.obj⟩,h.lwle,h.mark,fun _ _ h=>h,fun _ h=>h,fun _ _ _ _ _ h=>h,fun _ h=>h.elim,h.cC⟩
 ·intro i cs0 hi j c hj
  by_cases e:i=d
  ·subst e
   unfold St.bset at hi
   rw[lk_cons_eq] at hi
   cases hi
   obtain⟨u,h1,h2,h3⟩:=hm.box (j:=q) hq' hj
   rw[hρ0] at h1
   exact⟨u,h1,RepT.pure (pures_mem hp (List.mem_of_getElem? hj)) ⟨fun b o u h1 h2=>⟨.inr h1,h2⟩,.refl _⟩ h2,h3⟩
  ·unfold St.bset at hi
   dsimp only at hi
   rw[lk_cons_ne _ _ e] at hi
   obtain⟨u,h1,h2,h3⟩:=hd0.mm.box hi hj
   exact⟨u,h1,h2.same (g':={g' with L:=fun b o=>g'.L b o∨L' b o}) hS rfl rfl,h3⟩
 ·intro i hi j
  rcases isK_bset.1 hi with rfl | hi
  ·have:=hm.frz (j:=q) hql j
   rwa [hρ0] at this
  ·exact hd0.mm.frz hi j
 ·intro i hi j hl
  rcases isK_bset.1 hi with rfl | hi
  ·exact hl.elim (fun h1=>h.see h1 hZd) (bxL0 j)
  ·exact h.box i hi (see hl (hd0.mm.bxL hi j))
 ·intro i hi
  rcases isK_bset.1 hi with rfl | hi
  ·exact(h.from_ _ hZd).2
  ·exact hd0.mm.bxE hi
 ·intro i hi
  rcases isK_bset.1 hi with rfl | hi
  ·exact(h.cC _ hC).1
  ·exact hd0.mm.loc hi
 ·intro i hi
  rcases isK_bset.1 hi with rfl | hi
  ·exact(h.from_ _ hZd).1.2
  ·exact hd0.mm.lt hi
 ·intro i j hi hj hij
  rcases isK_bset.1 hi with e1 | hi
  ·rcases isK_bset.1 hj with e2 | hj
   ·exact absurd (e1.trans e2.symm) hij
   ·rw[e1];exact(out hj (hne hj)).symm
  ·rcases isK_bset.1 hj with e2 | hj
   ·rw[e2];exact out hi (hne hi)
   ·exact hd0.mm.inj hi hj hij
 ·intro k e hk
  obtain⟨n,vals,o1,o2⟩:=hd0.mm.own hk
  refine⟨n,vals,o1,fun b hb=>⟨fun o hl=>?_,fun i hi=>?_⟩⟩
  ·refine Classical.byContradiction fun hn=>h.own k e b hk hb (see hl fun h1=>hn ((o2 b hb).1 o h1))
  ·rcases isK_bset.1 hi with e1 | hi
   ·rw[e1];exact fun e2=>h.own k e b hk hb (by rw[←e2];exact hZd)
   ·exact(o2 b hb).2 i hi
 ·intro b o hl
  exact hl.elim hd0.mm.Lc hLc
 ·intro i hi
  rcases isK_bset.1 hi with e1 | hi
  ·have:=hm.bc (j:=q) hql
   rw[hρ0] at this
   rw[e1];exact this
  ·exact hd0.mm.bc hi
 ·rcases hl with hl | hl
  ·exact h.stp.newL hl
  ·rcases hL' hl with h1 | h1
   ·exact .inl h1
   ·obtain⟨⟨h2,_⟩,h3⟩:=h.from_ _ h1
    rcases h2 with h2 | ⟨j,hj,rfl⟩
    ·exact .inr ⟨Nat.le_trans hbl h2,h3⟩
    ·exact absurd hl (hm.bxL (j:=j) (by omega) o)
def En.plus (X:En)(Z:Nat→Prop)(W0:World):En where
 E:=fun w=>X.E w∧∀b,Z b→w.heap[b]? =W0.heap[b]? ∧b < w.heap.size
 Eb:=fun b=>X.Eb b∨Z b
 lt:=fun {w b} h hb=>hb.elim (X.lt h.1) fun hz=>(h.2 b hz).2
 upd:=fun {S w w'} hu hS h=>⟨X.upd hu (fun b hb hE=>hS b hb (.inl hE)) h.1,fun b hz=>by
  obtain⟨h1,h2⟩:=h.2 b hz
  exact⟨(hu.block b h2 (fun hs=>hS b hs (.inr hz))).trans h1,Nat.lt_of_lt_of_le h2 hu.size⟩⟩
 gv:=X.gv
 gl:=fun h hg=>let ⟨h1,h2⟩:=X.gl h.1 hg;⟨.inl h1,h2⟩
theorem Hd.plus {st:St}{a:Act}{w:World}{g:Gh}{Z:Nat→Prop}(hd:Hd P X base S st a w g)(hZ:∀b,Z b→b < w.heap.size)(hZb:∀i,isK st.bs i→¬Z (g.ρ i).1)(hZo:∀k e b,lget st.lv k=some e→(g.κ k).ownBlock=some b→¬Z b):Hd P (X.plus Z w) base S st a w g:=
 ⟨hd.sz,hd.env,⟨hd.mm.box,hd.mm.frz,hd.mm.bxL,fun hi h=>h.elim (hd.mm.bxE hi) (hZb _ hi),hd.mm.loc,hd.mm.lt,hd.mm.inj,hd.mm.own,hd.mm.ownInj,hd.mm.Lc,hd.mm.bc,fun hk hb h=>h.elim (hd.mm.ownE hk hb) (hZo _ _ _ hk hb)⟩,⟨hd.E,fun b hz=>⟨rfl,hZ b hz⟩⟩,hd.le⟩
theorem Hd.minus {st:St}{a:Act}{w:World}{g:Gh}{Z:Nat→Prop}{W0:World}(hd:Hd P (X.plus Z W0) base S st a w g):Hd P X base S st a w g:=
 ⟨hd.sz,hd.env,⟨hd.mm.box,hd.mm.frz,hd.mm.bxL,fun hi h=>hd.mm.bxE hi (.inl h),hd.mm.loc,hd.mm.lt,hd.mm.inj,hd.mm.own,hd.mm.ownInj,hd.mm.Lc,hd.mm.bc,fun hk hb h=>hd.mm.ownE hk hb (.inl h)⟩,hd.E.1,hd.le⟩
end Go.Proofs.YtknelogmocedeaaGreatDoor
