/- The walk without memory: iterators' own texts, what they yield. Whatever program. -/
import Derived.Test.YtknelogmocedeaaGreatDoorR23
import Derived.Test.YtknelogmocedeaaGreatDoorR22
import Derived.Scope
namespace Go.Proofs.YtknelogmocedeaaGreatDoor
open Go.RowKit
set_option linter.unusedVariables false
variable {P : Program} {tb : Tab}
mutual
def V.flat:V→Bool
 | .int _ _=>true
 | .bool _=>true
 | .str _=>true
 | .nils=>true
 | .nili=>true
 | .raw _=>true
 | .ifc _ x=>x.flat
 | .agg l=>V.flats l
 | .sl _=>false
 | .mp _ _=>false
def V.flats:List V→Bool
 | []=>true
 | x::r=>x.flat&&V.flats r
end
mutual
theorem flat_rep{w w':World}{L L':Lv}:∀(x:V) (v:Value),x.flat=true→Rep w L x v→Rep w' L' x v
 | .int _ _,_,_,h=>h
 | .bool _,_,_,h=>h
 | .str _,_,_,h=>h
 | .nils,_,_,h=>h
 | .nili,_,_,h=>h
 | .raw _,_,_,h=>h
 | .ifc t x,v,hf,⟨u,e,h⟩=>⟨u,e,flat_rep x u hf h⟩
 | .agg l,v,hf,⟨cs,e,h⟩=>⟨cs,e,flats_rep l cs.toList hf h⟩
 | .sl _,_,hf,_=>by cases hf
 | .mp _ _,_,hf,_=>by cases hf
theorem flats_rep{w w':World}{L L':Lv}:∀(l:List V) (cs:List Value),V.flats l=true→RepL w L l cs→RepL w' L' l cs
 | [],_,_,h=>h
 | x::r,_,hf,⟨u,us,e,h1,h2,h3⟩=>by
  rw[V.flats,Bool.and_eq_true] at hf
  exact⟨u,us,e,h1,flat_rep x u hf.1 h2,flats_rep r us hf.2 h3⟩
end
theorem flats_repW{w w':World}{L L':Lv}:∀{l:List V} {cs:List Value},V.flats l=true→RepW w L l cs→RepW w' L' l cs
 | [],_,_,h=>h
 | x::r,_,hf,⟨u,us,e,h2,h3⟩=>by
  rw[V.flats,Bool.and_eq_true] at hf
  exact⟨u,us,e,flat_rep x u hf.1 h2,flats_repW hf.2 h3⟩
theorem flats_get{l:List V}{i:Nat}{x:V}(h:V.flats l=true)(hx:l[i]? =some x):x.flat=true:=by
 induction l generalizing i with
 | nil=>simp at hx
 | cons y r ih=>
  rw[V.flats,Bool.and_eq_true] at h
  cases i with
  | zero=>simp at hx;subst hx;exact h.1
  | succ i=>exact ih h.2 (by simpa using hx)
structure Ky where
 w0:World
 g:Gh
 l0:Nat
 nc:Nat
abbrev Ky.L0 (k:Ky):Lv:=k.g.L
def Ky.C (k:Ky):Nat→Prop:=inB k.g k.nc
abbrev Rows:=List (Nat×(Nat×Nat×List (List V)))
def KeepT(P:Program)(k:Ky)(rows:Rows):T→T→Prop
 | _,.un=>True
 | .v x,.v y=>x.flat=true∧(x=y∨∀v,Rep k.w0 k.L0 x v→Rep k.w0 k.L0 y v)
 | .v x,.ro cs=>x.flat=true∧∀v,Rep k.w0 k.L0 x v→RepT P k.w0 k.g (.ro cs) v
 | .ptr i o,.ptr j q=>i=j∧o=q
 | .sub a (.pre m),.own b e zs=>a=b∧∃xs,lk b rows=some (e,m,xs)∧xs.take m=zs
 | .own a e xs,.own b e' zs=>a=b∧e=e'∧xs=zs∧lk b rows=some (e,xs.length,xs)
 | _,_=>False
def KeepL(P:Program)(k:Ky)(rows:Rows):List T→List T→Prop
 | [],[]=>True
 | x::xs,y::ys=>KeepT P k rows x y∧KeepL P k rows xs ys
 | _,_=>False
def KeepE(P:Program)(k:Ky)(capsE:List (Nat×T))(rows:Rows)(st:St):List (Nat×T)→Prop
 | []=>True
 | p::r=>(KeepT P k rows (tget st.env p.1) p.2∨lk p.1 capsE=some p.2)∧KeepE P k capsE rows st r
def KeepB(P:Program)(k:Ky)(rows:Rows)(st:St):List (Nat×List T)→Prop
 | []=>True
 | p::r=>(∃cs,lk p.1 st.bs=some cs∧KeepL P k rows cs p.2)∧KeepB P k rows st r
def RowsOk(st:St):Rows→Prop
 | []=>True
 | r::rs=>(lget st.lv r.1=some r.2.1∧(∃s,tget st.env s=.own r.1 r.2.1 r.2.2.2)∧r.2.2.1≤r.2.2.2.length∧∀c∈r.2.2.2,V.flats c=true)∧RowsOk st rs
def Keep(P:Program)(k:Ky)(capsE:List (Nat×T))(rows:Rows)(st st1:St):Prop:=
 st1.n=st.n∧KeepE P k capsE rows st st1.env∧KeepB P k rows st st1.bs∧RowsOk st rows∧st1.lv=rows.map fun r=>(r.1,some r.2.1)
def isY(st:St)(o:Oper):Bool:=match o.op with
 | .call c=>match c.callee with
  | .value (.tmp g)=>match tget st.env g with
   | .v (.raw (.func (.yield _) _ _))=>true
   | _=>false
  | _=>false
 | _=>false
def YArgs(k:Ky)(rows:Rows)(vs y:List V):Prop:=
 (rows=[]∧(vs=y∨vs.map V.nz=y))∨(V.flats vs=true∧∀us,RepW k.w0 k.L0 vs us→RepW k.w0 k.L0 y us)
def wantS(ops:List Oper)(o:Oper)(st:St):Bool:=match o.guard with
 | none=>true
 | some p=>match ops[p.1]? with
  | some g=>match g.dst with
   | some d=>match tget st.env d,p.2 with
    | .v (.bool true),true=>true
    | .v (.bool false),false=>true
    | _,_=>false
   | none=>false
  | none=>false
def semY(P:Program)(X:En)(tb:Tab)(k:Ky)(capsE:List (Nat×T))(ys:List (List V))(ops:List Oper):List Oper→St→Option Nat→(Option Nat→St→Prop)→Prop
 | [],st,m,K=>K m st
 | o :: r, st, m, K => match isY st o with
  | false=>semG tb (Cn P X) ops o st fun st'=>semY P X tb k capsE ys ops r st' m K
  | true=>match m,wantS ops o st,o.op,o.dst with
   | some i,true,.call c,some d=>∃(g:Nat) (vs y:List V) (rows:Rows) (st1:St),c.callee=.value (.tmp g)∧tget st.env g=.v (.raw (.func (.yield k.l0) #[] #[]))∧toVs (c.args.toList.map st.ev)=some vs∧ys[i]? =some y∧((YArgs k rows vs y∧Keep P k capsE rows st st1)∨(V.flats vs=true∧vs=y∧st1=st))∧
     (frcSt (st1.put (some d) (.v (.bool true))) fun st2=>semY P X tb k capsE ys ops r st2 (some (i+1)) K)∧(frcSt (st1.put (some d) (.v (.bool false))) fun st2=>semY P X tb k capsE ys ops r st2 none K)
   | _,_,_,_=>False
def hasY(ops:List Oper):Bool:=ops.any fun o=>match o.op with
 | .call c=>match c.callee with
  | .value (.tmp _)=>true
  | _=>false
 | _=>false
def seqY(K:Option Nat→St→Prop)(Q:Exit→Option Nat→St→Prop):Exit→Option Nat→St→Prop
 | .normal,m,st=>K m st
 | e,m,st=>Q e m st
def blockY(id:Nat)(Q:Exit→Option Nat→St→Prop):Exit→Option Nat→St→Prop
 | .exit j,m,st=>match Nat.beq j id with
  | true=>Q .normal m st
  | false=>Q (.exit j) m st
 | e,m,st=>Q e m st
def loopY{α:Type}(I:α→St)(ix:α→Option Nat)(inv:α→Prop)(rk:α→Nat)(x:α)(Q:Exit→Option Nat→St→Prop):Exit→Option Nat→St→Prop
 | .normal,m,st=>∃y σ,inv y∧ix y=m∧rk y < rk x∧Wk σ st (I y)
 | e,m,st=>Q e m st
def pinE:List (Nat×V)→List (Nat×T)
 | []=>[]
 | p::r=>(p.1,.v p.2)::pinE r
def PinsOk(k:Ky)(st:St):List (Nat×V)→Prop
 | []=>True
 | p::r=>(match tget st.env p.1 with
  | .v x=>x.flat=true∧∀v,Rep k.w0 k.L0 x v→Rep k.w0 k.L0 p.2 v
  | _=>False)∧PinsOk k st r
def St.pin:St→List (Nat×V)→St
 | ⟨n,env,bs,lv⟩,pins=>⟨n,pinE pins++env,bs,lv⟩
def yCode(P:Program)(X:En)(tb:Tab)(k:Ky):List (Nat×T)→List (List V)→Code→(Exit→Option Nat→St→Prop)→Option Nat→St→Prop
 | _,_,.skip,Q,m,st=>Q .normal m st
 | capsE,ys,.region id ops draw,Q,m,st=>match hasY ops.toList with
  | false=>aCode P X tb (.region id ops draw) (fun e st'=>Q e m st') st
  | true=>match draw with
   | false=>semY P X tb k capsE ys ops.toList ops.toList st m (Q .normal)
   | true=>False
 | capsE,ys,.seq x y,Q,m,st=>yCode P X tb k capsE ys x (seqY (fun m' st'=>yCode P X tb k capsE ys y Q m' st') Q) m st
 | capsE,ys,.cond c x y,Q,m,st=>match st.ev c with
  | .v (.bool true)=>yCode P X tb k capsE ys x Q m st
  | .v (.bool false)=>yCode P X tb k capsE ys y Q m st
  | _=>False
 | capsE,ys,.block id b,Q,m,st=>yCode P X tb k capsE ys b (blockY id Q) m st
 | capsE,ys,.loop b,Q,m,st=>∃(pins:List (Nat×V)),PinsOk k st pins∧freeE (codeW b) (pinE pins)=true∧∃(α:Type) (I:α→St) (ix:α→Option Nat) (inv:α→Prop) (rk:α→Nat),(∃x σ,inv x∧ix x=m∧Wk σ (st.pin pins) (I x))∧∀x,inv x→yCode P X tb k (pinE pins++capsE) ys b (loopY I ix inv rk x Q) (ix x) (I x)
 | _,_,.rangeFunc fo ps x y,Q,m,st=>aCode P X tb (.rangeFunc fo ps x y) (fun e st'=>Q e m st') st
 | _,_,.exit id,Q,m,st=>Q (.exit id) m st
 | _,_,.ret,Q,m,st=>Q .ret m st
 | _,_,.label _,Q,m,st=>Q .normal m st
 | _,_,_,_,_,_=>False
structure JOk(P:Program)(X:En)(k:Ky)(ys:List (List V))(J:Option Nat→(Nat→Prop)→World→Prop):Prop where
 st:∀i Z W W',J i Z W→Upd Z W W'→MapsK W W'→J i (fun b=>Z b∨(W.heap.size≤b∧b < W'.heap.size)) W'
 an:∀i Z Z' W,J i Z W→(∀b,Z' b→Z b)→J i Z' W
 ba:∀i Z W,J i Z W→X.E W∧Same k.L0 k.w0 k.L0 W∧k.w0.heap.size≤W.heap.size∧(∀b,Z b→(k.w0.heap.size≤b∨k.C b)∧b < W.heap.size)
 rd:∀(i:Nat) (y:List V) Z Z' W (L':Lv) (args:List Value),ys[i]? =some y→J (some i) Z W→RepW W L' y args→(∀{b o},L' b o→k.L0 b o∨(Z b∧¬k.C b))→(∀b,Z' b→Z b)→(∀{b o},L' b o→¬Z' b)→
   ∃fn tmps assign body,(Instr.yield k.l0 args.toArray).run P W=.ok (.round k.l0 fn tmps assign body) W∧RoundIn Fence.wide 0 P k.l0 fn tmps assign body W (fun e W'=>(Upd (fun b=>¬Z' b) W W'∧MapsK W W')∧((e=.returned (.bool true)∧J (some (i+1)) Z' W')∨(e=.returned (.bool false)∧J none Z' W')))
 l0:∀{b o},k.L0 b o→∃u,k.w0.cell? ⟨b,o,none⟩=some u
 lc:∀{b o},k.L0 b o→¬k.C b
 cl:∀{b},k.C b→b < k.w0.heap.size
def notZ(Z:Nat→Prop)(W:World):Nat→Prop:=fun b=>b < W.heap.size∧¬Z b
structure RunY(P:Program)(X:En)(k:Ky)(J:Option Nat→(Nat→Prop)→World→Prop)(N:Nat)(Wr:Nat→Prop)(a0:Act)(m:Option Nat)(st:St)(a:Act)(W:World)(Z:Nat→Prop)(g:Gh)(ms:List Nat):Prop where
 j:J m Z W
 hd:Hd P (X.plus (notZ Z W) W) k.w0.heap.size k.C st a W g
 lz:∀{b o},g.L b o→k.L0 b o∨(Z b∧¬k.C b)
 l0:∀{b o},k.L0 b o→g.L b o
 n:st.n=N
 kp:∀t,¬Wr t→a.tmps.getD t undef=a0.tmps.getD t undef
 df:a.defers=marks ms
 mo:MarksOk k.w0 W ms
 mz:∀r∈ms,Z r
 rho:∀{i},N≤i→g.ρ i=(k.g.sh N).ρ i
variable {X : En} {k : Ky} {J : Option Nat → (Nat → Prop) → World → Prop} {N : Nat} {Wr : Nat → Prop} {a0 : Act} {ys : List (List V)} {capsE : List (Nat × T)}
theorem RunY.inZ {m:Option Nat}{st:St}{a:Act}{W:World}{Z:Nat→Prop}{g:Gh}{ms:List Nat}(h:RunY P X k J N Wr a0 m st a W Z g ms):(∀{i},isK st.bs i→Z (g.ρ i).1)∧∀{key e b},lget st.lv key=some e→(g.κ key).ownBlock=some b→Z b:=by
 refine⟨fun {i} hi=>?_,fun {key e b} hk hb=>?_⟩
 ·have h1:=h.hd.mm.bxE hi
  have h2:=h.hd.mm.lt hi
  exact Classical.byContradiction fun hz=>h1 (.inr ⟨h2,hz⟩)
 ·have h1:=h.hd.mm.ownE hk hb
  obtain⟨n,vals,o1,_⟩:=h.hd.mm.own hk
  have h2:=(o1.lt b hb).2
  exact Classical.byContradiction fun hz=>h1 (.inr ⟨h2,hz⟩)
theorem RunY.step (hJ:JOk P X k ys J){m:Option Nat}{st:St}{a:Act}{W:World}{Z:Nat→Prop}{g:Gh}{ms:List Nat}(h:RunY P X k J N Wr a0 m st a W Z g ms){st':St}{a':Act}{W':World}{g':Gh}
  (hd':Hd P (X.plus (notZ Z W) W) k.w0.heap.size k.C st' a' W' g') (hs:Stp (X.plus (notZ Z W) W) k.w0.heap.size k.C N W g W' g') (hn:st'.n=N) (hk:∀t,¬Wr t→a'.tmps.getD t undef=a.tmps.getD t undef) (hm:∃ms',a'.defers=marks ms'++a.defers∧MarksOk W W' ms'):
  ∃ms',RunY P X k J N Wr a0 m st' a' W' (fun b=>Z b∨(W.heap.size≤b∧b < W'.heap.size)) g' ms':=by
 obtain⟨ms',hm1,hm2⟩:=hm
 obtain⟨_,_,hb3,hb4⟩:=hJ.ba _ _ _ h.j
 have hu:Upd Z W W':=⟨hs.upd.os,hs.upd.tape,hs.upd.output,hs.upd.size,fun b hb hz=>(hd'.E.2 b ⟨hb,hz⟩).1⟩
 have hj:=hJ.st _ _ _ _ h.j hu hs.same.m
 have hZ2:∀{b},b < W'.heap.size→¬(X.plus (notZ Z W) W).Eb b→Z b∨(W.heap.size≤b∧b < W'.heap.size):=fun {b} hb he=>by
  by_cases hlt:b < W.heap.size
  ·exact .inl (Classical.byContradiction fun hz=>he (.inr ⟨hlt,hz⟩))
  ·exact .inr ⟨by omega,hb⟩
 refine⟨ms'++ms,hj,hd'.minus.plus (fun b hb=>hb.1) (fun i hi hz=>hz.2 (hZ2 (hd'.mm.lt hi) (hd'.mm.bxE hi))) (fun key e b hk' hb hz=>?_),fun {b o} hl=>?_,fun {b o} hl=>?_,hn,fun t ht=>(hk t ht).trans (h.kp t ht),?_,⟨?_,fun r hr=>?_⟩,fun r hr=>?_,fun hi=>(hs.rho hi).trans (h.rho hi)⟩
 ·obtain⟨n,vals,o1,_⟩:=hd'.mm.own hk'
  exact hz.2 (hZ2 (o1.lt b hb).2 (hd'.mm.ownE hk' hb))
 ·rcases hs.newL hl with h1 | ⟨h2,h1⟩
  ·exact(h.lz h1).imp id fun h=>⟨.inl h.1,h.2⟩
  ·exact .inr ⟨hZ2 (hd'.mm.Llt hl) h1,fun hc=>by have:=hJ.cl hc;omega⟩
 ·obtain⟨u,hu⟩:=h.hd.mm.Lc (h.l0 hl)
  exact(hs.same.c b o u (h.l0 hl) hu).1
 ·rw[hm1,h.df];simp[marks]
 ·refine List.nodup_append.2 ⟨hm2.1,h.mo.1,fun r1 hr1 r2 hr2=>?_⟩
  rintro rfl
  have h1:=(hm2.2 r1 hr1).1
  have h2:=(Array.getElem?_eq_some_iff.1 (h.mo.2 r1 hr2).2).1
  omega
 ·rcases List.mem_append.1 hr with hr | hr
  ·exact⟨Nat.le_trans hb3 (hm2.2 r hr).1,(hm2.2 r hr).2⟩
  ·exact⟨(h.mo.2 r hr).1,hs.obj (h.mo.2 r hr).2 rfl⟩
 ·rcases List.mem_append.1 hr with hr | hr
  ·exact .inr ⟨(hm2.2 r hr).1,(Array.getElem?_eq_some_iff.1 (hm2.2 r hr).2).1⟩
  ·exact .inl (h.mz r hr)
theorem lk_rows{rows:Rows}{a e:Nat}(h:lget (rows.map fun r=>(r.1,some r.2.1)) a=some e):∃m xs,lk a rows=some (e,m,xs):=by
 induction rows with
 | nil=>cases h
 | cons r rs ih=>
  unfold lget at h
  simp only[List.map_cons,lk] at h
  cases hb:Nat.beq a r.1 with
  | true=>
   rw[hb] at h
   dsimp only at h
   cases h
   exact⟨r.2.2.1,r.2.2.2,by simp only[lk,hb]⟩
  | false=>
   rw[hb] at h
   dsimp only at h
   obtain⟨m,xs,h2⟩:=ih h
   exact⟨m,xs,by simp only[lk,hb];exact h2⟩
theorem RowsOk.at {st:St}:∀{rows:Rows} {a e m:Nat} {xs:List (List V)},RowsOk st rows→lk a rows=some (e,m,xs)→lget st.lv a=some e∧(∃s,tget st.env s=.own a e xs)∧m≤xs.length∧∀c∈xs,V.flats c=true
 | [],_,_,_,_,_,h=>by cases h
 | r::rs,a,e,m,xs,⟨h1,h2⟩,h=>by
  simp only[lk] at h
  cases hb:Nat.beq a r.1 with
  | true=>
   rw[hb] at h
   have:a=r.1:=Nat.eq_of_beq_eq_true hb
   dsimp only at h
   injection h with h
   rw[this]
   rw[h] at h1
   exact h1
  | false=>
   rw[hb] at h
   exact RowsOk.at h2 h
def cutV(m:Nat):Value→Value
 | .slice A _ c=>.slice A m c
 | v=>v
def Gh.cut (g:Gh)(P:Program)(k:Ky)(rows:Rows):Gh where
 L:=fun b o=>k.L0 b o∨∃a e m xs,lk a rows=some (e,m,xs)∧(g.κ a).ownBlock=some b∧o < m*P.cellsOf e
 ρ:=g.ρ
 κ:=fun a=>match lk a rows with
  | some (e,m,xs)=>cutV m (g.κ a)
  | none=>undef
theorem cutV_block(m:Nat)(v:Value):(cutV m v).ownBlock=v.ownBlock:=by cases v <;> first | rfl | (rename_i A n c;cases A <;> rfl)
theorem RunY.row {m0:Option Nat}{st:St}{a:Act}{W W':World}{Z Z':Nat→Prop}{g:Gh}{ms:List Nat}{rows:Rows}(h:RunY P X k J N Wr a0 m0 st a W Z g ms)(hR:RowsOk st rows)(hZb:∀{key e m xs b},lk key rows=some (e,m,xs)→(g.κ key).ownBlock=some b→Z' b)
  (hW:∀b,Z' b→W'.heap[b]? =W.heap[b]?) {key e m:Nat} {xs:List (List V)} (hk:lk key rows=some (e,m,xs)):
  Rep W' (g.cut P k rows).L (.sl (xs.take m)) (cutV m (g.κ key))∧(∀c∈xs,c.length=P.cellsOf e)∧∃vals,W'.ownsRow k.w0.heap.size e (P.cellsOf e) (cutV m (g.κ key)) m vals:=by
 obtain⟨h1,⟨s,hs⟩,hm,hfl⟩:=hR.at hk
 have hev:=h.hd.env s
 rw[hs] at hev
 obtain⟨⟨A,c,hv,hle,hne⟩,hκ,hcl⟩:=hev
 have hκ':g.κ key=.slice A xs.length c:=hκ.symm.trans hv
 obtain⟨n,vals,o1,o2⟩:=h.hd.mm.own h1
 have hrow:=o1.2
 rw[hκ'] at hrow
 have hcut:cutV m (g.κ key)=.slice A m c:=by rw[hκ'];rfl
 rw[hcut]
 have hlt:(xs.take m).length=m:=by rw[List.length_take];omega
 rcases hrow with⟨h2,h3⟩ | ⟨b,cap,cur,h2,h3,h4,h5,h6,h7,h8⟩
 ·injection h2 with e1 e2 e3
  have hx:xs=[]:=List.eq_nil_of_length_eq_zero e2
  subst hx
  have hm0:m=0:=by simpa using hm
  subst hm0
  refine⟨⟨A,c,rfl,Nat.zero_le _,fun hn=>absurd rfl hn⟩,hcl,[],by simp,.inl ⟨by rw[e1,e3],rfl⟩⟩
 ·injection h2 with e1 e2 e3
  have hob:(g.κ key).ownBlock=some b:=by rw[hκ',e1];rfl
  have hz:=hZb hk hob
  have hb':W'.heap[b]? =some (.cells cur e (0,0)):=(hW b hz).trans h4
  refine⟨⟨A,c,by rw[hlt],by rw[hlt];omega,fun hn=>?_⟩,hcl,cur.toList.take (m*P.cellsOf e),?_,.inr ⟨b,c,cur,by rw[e1],h3,hb',by omega,by rw[e3];exact h6,by rw[e3];exact h7,rfl⟩⟩
  ·have hxn:xs≠[]:=fun e=>by rw[e] at hn;simp at hn
   obtain⟨b1,o,k1,e4,hr⟩:=hne hxn
   rw[e1] at e4
   injection e4 with e4
   injection e4 with e5 e6
   subst e5 e6
   refine⟨b,0,k1,e1,RepE.of_get _ _ fun i cc hc=>?_⟩
   rw[List.getElem?_take] at hc
   split at hc
   rotate_left
   ·cases hc
   rename_i him
   obtain⟨h9,h10⟩:=hr.get hc
   refine⟨h9,RepC.of_get _ _ fun j x hj=>?_⟩
   obtain⟨u,h11,h12,h13,h14⟩:=h10.get hj
   have hxf:=flats_get (hfl cc (List.mem_of_getElem? hc)) hj
   have hjl:j < cc.length:=(List.getElem?_eq_some_iff.1 hj).1
   refine⟨u,.inr ⟨key,e,m,xs,hk,hob,?_⟩,?_,h13,flat_rep x u hxf h14⟩
   ·have hcc:=hcl cc (List.mem_of_getElem? hc)
    have hkk:k1=P.cellsOf e:=h9.symm.trans hcc
    rw[←hkk]
    have:i*k1+k1≤m*k1:=by
     rw[←Nat.succ_mul]
     exact Nat.mul_le_mul_right _ him
    omega
   ·unfold World.cell? at h12 ⊢
    dsimp only at h12 ⊢
    rw[hW b hz];exact h12
  ·rw[List.length_take,Array.length_toList]
   have:m*P.cellsOf e≤cap*P.cellsOf e:=Nat.mul_le_mul_right _ (by omega)
   omega
theorem RunY.kept (hJ:JOk P X k ys J)(hcap:∀s t,lk s capsE=some t→RepT P k.w0 k.g t (a0.tmps.getD s undef)∧t.pure=true∧¬Wr s){m m':Option Nat}{st st1:St}{a:Act}{W W':World}{Z Z':Nat→Prop}{g:Gh}{ms:List Nat}{rows:Rows}(h:RunY P X k J N Wr a0 m st a W Z g ms)
    (hK:Keep P k capsE rows st st1) (hu:Upd (fun b=>¬Z' b) W W') (hmk:MapsK W W') (hj:J m' Z' W') (hZZ:∀b,Z' b→Z b) (hZb:∀{i},isK st.bs i→Z' (g.ρ i).1) (hZr:∀{key e m xs b},lk key rows=some (e,m,xs)→(g.κ key).ownBlock=some b→Z' b) (hZm:∀r∈ms,Z' r):
    RunY P X k J N Wr a0 m' st1 a W' Z' (g.cut P k rows) ms:=by
  obtain⟨k1,k2,k3,k4,k5⟩:=hK
  obtain⟨b1,b2,b3,b4⟩:=hJ.ba _ _ _ hj
  obtain⟨_,_,c3,c4⟩:=hJ.ba _ _ _ h.j
  have hW:∀b,Z' b→W'.heap[b]? =W.heap[b]? :=fun b hz=>hu.block b (c4 b (hZZ b hz)).2 (fun hn=>hn hz)
  have hs0:Same k.L0 k.w0 (g.cut P k rows).L W':=⟨fun b o u h1 h2=>⟨.inl h1,(b2.c b o u h1 h2).2⟩,b2.m⟩
  have hl0:∀{b o},k.L0 b o→b < k.w0.heap.size:=fun {b o} hl=>by
    obtain⟨u,hu⟩:=hJ.l0 hl
    exact World.block_lt_of_cell? _ _ hu
  have row:=fun {key e m xs} hk=>h.row (W':=W') (key:=key) (e:=e) (m:=m) (xs:=xs) k4 hZr hW hk
  have hκ:∀{key e m xs},lk key rows=some (e,m,xs)→(g.cut P k rows).κ key=cutV m (g.κ key):=fun {key e m xs} hk=>by
    show(match lk key rows with | some (e,m,xs)=>cutV m (g.κ key) | none=>undef)=_
    rw[hk]
  have rep:∀{t t':T} {v:Value},KeepT P k rows t t'→RepT P W g t v→RepT P W' (g.cut P k rows) t' v:=fun {t t' v} hk r=>by
    cases t' with
    | un=>trivial
    | v y=>
      cases t with
      | v x=>
        obtain⟨hf,rfl | hy⟩:=hk
        · exact flat_rep x v hf r
        · exact Rep.mono hs0 y v (hy v (flat_rep x v hf r))
      | _=>exact hk.elim
    | ro cs=>
      cases t with
      | v x=>
        obtain⟨hf,hy⟩:=hk
        have:=hy v (flat_rep x v hf r)
        exact RepT.mono (g:=k.g) (g':=g.cut P k rows) hs0 (.ro cs) v (fun i hi=>by cases hi) (fun i hi=>by cases hi) this
      | _=>exact hk.elim
    | ptr j q=>
      cases t with
      | ptr i o=>obtain⟨rfl,rfl⟩:=hk;exact r
      | _=>exact hk.elim
    | own b e zs=>
      cases t with
      | sub a1 mb=>
        obtain⟨mm,rfl⟩:∃mm,mb=.pre mm:=by
          cases mb with
          | pre mm=>exact⟨mm,rfl⟩
          | ext _ _=>exact hk.elim
          | el _ _=>exact hk.elim
          | ag _ _ _ _=>exact hk.elim
        obtain⟨rfl,xs,hx,rfl⟩:=hk
        obtain⟨A,n,c,e1,e2,e3⟩:=r
        obtain⟨r1,r2,_⟩:=row hx
        rw[e1] at r1
        refine⟨by rw[e2];exact r1,by rw[hκ hx,e1];exact e2,fun c hc=>r2 c (List.mem_of_mem_take hc)⟩
      | own a1 e1 xs=>
        obtain⟨rfl,rfl,rfl,hx⟩:=hk
        obtain⟨r0,r1,r2⟩:=r
        obtain⟨r3,r4,_⟩:=row hx
        obtain⟨A,c,hv,_,_⟩:=r0
        have hvv:g.κ a1=.slice A xs.length c:=r1.symm.trans hv
        rw[hvv,List.take_length] at r3
        exact⟨by rw[hv];exact r3,by rw[hκ hx,hvv];exact hv,r2⟩
      | _=>exact hk.elim
    | sub a1 mm=>cases t <;> exact hk.elim
    | fn f l=>cases t <;> exact hk.elim
    | tup l=>cases t <;> exact hk.elim
  have repL:∀{cs cs':List T} {j:Nat} {c':T},KeepL P k rows cs cs'→cs'[j]? =some c'→∃c,cs[j]? =some c∧KeepT P k rows c c':=by
    intro cs
    induction cs with
    | nil=>intro cs' j c' hk hc;cases cs' with
      | nil=>simp at hc
      | cons _ _=>exact hk.elim
    | cons x xs ih=>intro cs' j c' hk hc;cases cs' with
      | nil=>exact hk.elim
      | cons y r=>cases j with
        | zero=>simp at hc;subst hc;exact⟨x,rfl,hk.1⟩
        | succ j=>exact ih hk.2 (by simpa using hc)
  have envAt:∀{l:List (Nat×T)} {q:Nat×T},KeepE P k capsE rows st l→q∈l→KeepT P k rows (tget st.env q.1) q.2∨lk q.1 capsE=some q.2:=by
    intro l
    induction l with
    | nil=>intro q _ hq;cases hq
    | cons p r ih => intro q hl hq; rcases List.mem_cons.1 hq with rfl | hq
                     · exact hl.1
                     · exact ih hl.2 hq
  have bsAt : ∀ {l : List (Nat × List T)} {q : Nat × List T}, KeepB P k rows st l → q ∈ l → ∃ cs, lk q.1 st.bs = some cs ∧ KeepL P k rows cs q.2 := by
    intro l
    induction l with
    | nil=>intro q _ hq;cases hq
    | cons p r ih => intro q hl hq; rcases List.mem_cons.1 hq with rfl | hq
                     · exact hl.1
                     · exact ih hl.2 hq
  have kk:∀{i},isK st1.bs i→isK st.bs i:=fun {i} hi=>by
    obtain⟨cs,hcs⟩:=Option.isSome_iff_exists.1 hi
    obtain⟨cs0,h0,_⟩:=bsAt k3 (lk_mem hcs)
    unfold isK;rw[h0];rfl
  have lvAt:∀{key e},lget st1.lv key=some e→∃m xs,lk key rows=some (e,m,xs):=fun {key e} hk=>lk_rows (by rw[←k5];exact hk)
  have hown:∀{key e},lget st1.lv key=some e→lget st.lv key=some e:=fun {key e} hk=>by
    obtain⟨m,xs,hx⟩:=lvAt hk
    exact(k4.at hx).1
  have hob:∀{key e b},lget st1.lv key=some e→((g.cut P k rows).κ key).ownBlock=some b→(g.κ key).ownBlock=some b:=fun {key e b} hk hb=>by
    obtain⟨m,xs,hx⟩:=lvAt hk
    rw[hκ hx,cutV_block] at hb
    exact hb
  have hobZ:∀{key e b},lget st1.lv key=some e→((g.cut P k rows).κ key).ownBlock=some b→Z' b:=fun {key e b} hk hb=>by
    obtain⟨m,xs,hx⟩:=lvAt hk
    exact hZr hx (hob hk hb)
  have hd : Hd P X k.w0.heap.size k.C st1 a W' (g.cut P k rows) := by
    refine⟨h.hd.sz.trans k1.symm,fun t=>?_,⟨?_,fun {i} hi j=>?_,fun {i} hi j=>?_,fun {i} hi hE=>h.hd.mm.bxE (kk hi) (.inl hE),fun {i} hi=>(c4 _ (hZZ _ (hZb (kk hi)))).1.symm,fun {i} hi=>Nat.lt_of_lt_of_le (h.hd.mm.lt (kk hi)) hu.size,fun hi hi'=>h.hd.mm.inj (kk hi) (kk hi'),fun {key e} hk=>?_,fun {a1 a2 e1 e2} hk1 hk2 hne=>?_,fun {b o} hl=>?_,fun {i} hi=>?_,fun {key e b} hk hb hE=>h.hd.mm.ownE (hown hk) (hob hk hb) (.inl hE)⟩,b1,b3⟩
    · cases ht:lk t st1.env with
      | none=>unfold tget;rw[ht];trivial
      | some x=>
        rw[show tget st1.env t=x from by unfold tget;rw[ht]]
        rcases envAt k2 (lk_mem ht) with hk | hk
        · exact rep hk (h.hd.env t)
        · obtain⟨r1,r2,r3⟩:=hcap _ _ hk
          have:a.eval (.tmp t)=a0.tmps.getD t undef:=h.kp t r3
          rw[this]
          exact RepT.pure (g:=k.g) (g':=g.cut P k rows) r2 hs0 r1
    · intro i cs' hi j c' hj'
      obtain⟨cs,h0,h1⟩:=bsAt k3 (lk_mem hi)
      obtain⟨c,h2,h3⟩:=repL h1 hj'
      obtain⟨u,h4,h5,h6⟩:=h.hd.mm.box h0 h2
      have hz:=hZb (i:=i) (by unfold isK;rw[h0];rfl)
      exact⟨u,(cell_old (hW _ hz) _).trans h4,rep h3 h5,h6⟩
    · exact(frozen_old (hW _ (hZb (kk hi))) j).trans (h.hd.mm.frz (kk hi) j)
    · rintro(hl | ⟨key,e,mm,xs,hx,hb,_⟩)
      · exact(c4 _ (hZZ _ (hZb (kk hi)))).1.elim (fun h2=>absurd (hl0 hl) (Nat.not_lt.2 h2)) (hJ.lc hl)
      · obtain⟨n,vals,_,o2⟩:=h.hd.mm.own (k4.at hx).1
        exact(o2 _ hb).2 i (kk hi) rfl
    · obtain⟨m,xs,hx⟩:=lvAt hk
      obtain⟨_,_,vals,r3⟩:=row hx
      refine⟨m,vals,by rw[hκ hx];exact r3,fun b hb=>⟨fun o ho=>?_,fun i hi=>?_⟩⟩
      · have hz:=hobZ hk hb
        rcases ho with hl | ⟨key',e',m',xs',hx',hb',ho⟩
        · exact(c4 _ (hZZ _ hz)).1.elim (fun h2=>absurd (hl0 hl) (Nat.not_lt.2 h2)) (fun h2=>(hJ.lc hl h2).elim)
        · by_cases he:key'=key
          · subst he
            rw[hx] at hx'
            cases hx'
            exact ho
          · rcases h.hd.mm.ownInj (k4.at hx').1 (hown hk) he with h3 | h3
            · rw[h3] at hb';cases hb'
            · rw[hob hk hb] at h3;exact absurd hb' h3
      · obtain⟨n,vals,_,o2⟩:=h.hd.mm.own (hown hk)
        exact(o2 b (hob hk hb)).2 i (kk hi)
    · obtain⟨m1,xs1,hx1⟩:=lvAt hk1
      obtain⟨m2,xs2,hx2⟩:=lvAt hk2
      rw[hκ hx1,hκ hx2,cutV_block,cutV_block]
      exact h.hd.mm.ownInj (hown hk1) (hown hk2) hne
    · rcases hl with hl | ⟨key,e,mm,xs,hx,hb,ho⟩
      · obtain⟨u,hu0⟩:=hJ.l0 hl
        exact⟨u,(b2.c _ _ _ hl hu0).2⟩
      · obtain⟨_,_,vals,r3⟩:=row hx
        rcases r3.2 with⟨h1,_⟩ | ⟨gg,cap,cur,h1,h2,h3,h4,h5,h6,h7⟩
        · have:=cutV_block mm (g.κ key)
          rw[h1,hb] at this
          cases this
        · have:=cutV_block mm (g.κ key)
          rw[h1,hb] at this
          injection this with this
          dsimp only at this
          subst this
          have hlt:o < cur.size:=by
            rw[h6]
            exact Nat.lt_of_lt_of_le ho (Nat.mul_le_mul_right _ h4)
          refine⟨cur[o],?_⟩
          exact cel h3 o (by rw[Array.getElem?_eq_getElem hlt])
    · show ∃c t fr,W'.heap[(g.ρ i).1]? =some (.cells c t fr)
      rw[hW _ (hZb (kk hi))]
      exact h.hd.mm.bc (kk hi)
  refine⟨hj,hd.plus (fun b hb=>hb.1) (fun i hi hz=>hz.2 (hZb (kk hi))) (fun key e b hk hb hz=>hz.2 (hobZ hk hb)),fun {b o} hl=>?_,fun hl=>.inl hl,k1.trans h.n,h.kp,h.df,⟨h.mo.1,fun r hr=>⟨(h.mo.2 r hr).1,(hW r (hZm r hr)).trans (h.mo.2 r hr).2⟩⟩,hZm,h.rho⟩
  rcases hl with hl | ⟨key,e,mm,xs,hx,hb,_⟩
  · exact .inl hl
  · obtain⟨n,vals,o1,_⟩:=h.hd.mm.own (k4.at hx).1
    exact .inr ⟨hZr hx hb,fun hc=>by have:=hJ.cl hc;have:=(o1.lt b hb).1;omega⟩
theorem RunY.all (hJ:JOk P X k ys J){m m':Option Nat}{st:St}{a:Act}{W W':World}{Z:Nat→Prop}{g:Gh}{ms:List Nat}(h:RunY P X k J N Wr a0 m st a W Z g ms)(hu:Upd (fun b=>¬Z b) W W')(hmk:MapsK W W')(hj:J m' Z W'):RunY P X k J N Wr a0 m' st a W' Z g ms:=by
 obtain⟨b1,b2,_,_⟩:=hJ.ba _ _ _ hj
 obtain⟨_,c2,_,c4⟩:=hJ.ba _ _ _ h.j
 have hW:∀b,Z b→W'.heap[b]? =W.heap[b]? :=fun b hz=>hu.block b (c4 b hz).2 (fun hn=>hn hz)
 have hs:Same g.L W g.L W':=⟨fun b o u h1 h2=>⟨h1,(h.lz h1).elim (fun hl=>by
  obtain⟨u0,hu0⟩:=hJ.l0 hl
  rw[(c2.c b o u0 hl hu0).2] at h2
  rw[←h2];exact(b2.c b o u0 hl hu0).2) (fun hz=>(cell_old (hW b hz.1) _).trans h2)⟩,hmk⟩
 obtain⟨i1,i2⟩:=h.inZ
 have h1:=h.hd.minus.upS hs hu.size (fun i hi=>hW _ (i1 hi)) (fun key e b hk hb=>hW b (i2 hk hb)) b1
 exact⟨hj,h1.plus (fun b hb=>hb.1) (fun i hi hz=>hz.2 (i1 hi)) (fun key e b hk hb hz=>hz.2 (i2 hk hb)),h.lz,h.l0,h.n,h.kp,h.df,⟨h.mo.1,fun r hr=>⟨(h.mo.2 r hr).1,(hW r (h.mz r hr)).trans (h.mo.2 r hr).2⟩⟩,h.mz,h.rho⟩
theorem toVs_repW{w:World}{g:Gh}:∀{l:List T} {vs:List V} {us:List Value},toVs l=some vs→RepTs P w g l us→RepW w g.L vs us
 | [],_,us,h,r=>by cases h;exact r
 | t::r,vs,us,h,⟨u,us',e,h1,h2⟩=>by
  unfold toVs at h
  split at h <;> try cases h
  rename_i x hx
  split at h <;> try cases h
  rename_i xs hxs
  exact⟨u,us',e,toV_rep h1 hx,toVs_repW hxs h2⟩
theorem nzW_rep{w:World}{L:Lv}:∀{l:List V} {cs:List Value},RepW w L l cs→RepW w L (l.map V.nz) cs
 | [],_,h=>h
 | x::r,_,⟨u,us,e,h2,h3⟩=>⟨u,us,e,nz_rep h2,nzW_rep h3⟩
def RunE(P:Program)(X:En)(k:Ky)(J:Option Nat→(Nat→Prop)→World→Prop)(N:Nat)(Wr:Nat→Prop)(a0:Act)(m:Option Nat)(st:St)(a:Act)(W:World):Prop:=∃Z g ms,RunY P X k J N Wr a0 m st a W Z g ms
theorem plus_le(X:En)(Z:Nat→Prop)(W:World):(X.plus Z W).Le X:=⟨fun w h=>h.1,fun b h=>.inl h⟩
theorem RunE.put {m:Option Nat}{st:St}{a:Act}{W:World}(h:RunE P X k J N Wr a0 m st a W){d:Nat}(hd:Wr d){x:V}{v:Value}(hx:∀w L,Rep w L x v):RunE P X k J N Wr a0 m (st.put (some d) (.v x)) (a.put (some d) v) W:=by
 obtain⟨Z,g,ms,h⟩:=h
 exact⟨Z,g,ms,h.j,h.hd.put (some d) (t:=.v x) (hx _ _),h.lz,h.l0,(put_n _ _ _).trans h.n,fun t ht=>(put_keep _ _ _ t (fun e=>ht (by cases e;exact hd))).trans (h.kp t ht),(put_defers _ _ _).trans h.df,h.mo,h.mz,h.rho⟩
theorem y_ops(hT:TabOk P tb)(hJ:JOk P X k ys J)(hcap:∀s t,lk s capsE=some t→RepT P k.w0 k.g t (a0.tmps.getD s undef)∧t.pure=true∧¬Wr s){ops:Array Oper}{Q:Exit→Act→World→Prop}{K:Option Nat→St→Prop}(hWr:∀(j:Nat) (o:Oper) (d:Nat),ops[j]? =some o→o.dst=some d→Wr d)
  (hQ:∀m st a W,RunE P X k J N Wr a0 m st a W→K m st→Q .normal a W):
  ∀(n kx:Nat) (m:Option Nat) (st:St) (a:Act) (W:World),n+kx=ops.size→semY P X tb k capsE ys ops.toList (ops.toList.drop kx) st m K→RunE P X k J N Wr a0 m st a W→wpOpsIn Fence.wide 1 P ops Q (List.range' kx n) a W:=by
 intro n
 induction n with
 | zero=>
  intro kx m st a W hk hs hr
  rw[List.drop_eq_nil_of_le (by rw[Array.length_toList];omega)] at hs
  exact hQ m st a W hr hs
 | succ n ih=>
  intro kx m st a W hk hs hr
  rw[List.range'_succ,wpOpsIn_cons]
  have hlt:kx < ops.size:=by omega
  rw[List.drop_eq_getElem_cons (by rw[Array.length_toList];exact hlt)] at hs
  have hi:ops[kx]? =some ops.toList[kx]:=by rw[Array.getElem?_eq_getElem hlt];simp
  generalize ops.toList[kx]=o at hs hi
  unfold semY at hs
  obtain⟨Z,g,ms,hr⟩:=hr
  split at hs
  ·have h1:=semG_wpIn (plus_le X _ _) (F:=Fence.wide) (.inl rfl) hT (n:=1) (N:=N) (ops:=ops) Q hr.n hr.hd hs
   have next:∀a' w',Aft P (X.plus (notZ Z W) W) k.w0.heap.size k.C N st.lv (bad o a) o.dst a W g (fun st'=>semY P X tb k capsE ys ops.toList (ops.toList.drop (kx+1)) st' m K) a' w'→wpOpsIn Fence.wide 1 P ops Q (List.range' (kx+1) n) a' w':=fun a' w' ⟨st',g',q1,q2,q3,q4,q5,q6,q7⟩=>by
    obtain⟨ms',hr'⟩:=hr.step hJ q2 q3 (by have e1:=q2.sz;have e2:=hr.hd.sz;have e3:=hr.n;omega) (fun t ht=>q7 t (fun e=>ht (hWr kx _ t hi e))) ⟨[],q4,MarksOk.nil _ _⟩
    exact ih (kx+1) m st' a' w' (by omega) q1 ⟨_,_,_,hr'⟩
   unfold wpOpIn
   simp only[hi]
   split
   ·rename_i hw
    rw[if_pos hw] at h1
    exact Oper.wpIn_mono next h1
   ·rename_i hw
    rw[if_neg hw] at h1
    exact⟨h1.1,next _ _ h1.2⟩
  ·split at hs <;> try exact hs.elim
   rename_i _ _ _ _ i c d hg ho hdst
   obtain⟨q,vs,y,rows,st1,hc,hq,hvs,hy,hyK,hs1,hs2⟩:=hs
   have hev:a.eval (.tmp q)=.func (.yield k.l0) #[] #[]:=by
    have:=hr.hd.env q
    rw[hq] at this
    exact this
   have hus:RepW W g.L vs (c.args.toList.map a.eval):=toVs_repW hvs (hr.hd.evs c.args.toList)
   obtain⟨_,_,c3,c4⟩:=hJ.ba _ _ _ hr.j
   have hd0:Wr d:=hWr kx o d hi hdst
   unfold wpOpIn
   simp only[hi]
   rw[if_pos (by
    unfold wantS at hg
    split at hg
    ·rename_i hg0;unfold Region.wanted;rw[hg0]
    ·rename_i p hg0
     split at hg <;> try cases hg
     rename_i go hgo
     split at hg <;> try cases hg
     rename_i dd hdd
     split at hg <;> first | (rename_i hq hp;rw[wanted_of hr.hd hg0 hgo hdd hq,hp];rfl) | cases hg)]
   refine⟨fun f _=>trivial,?_⟩
   rw[Oper.semAt_plain _ _ _ (by rw[ho];intro c h;cases h)]
   have run:∀{fn tmps assign body},(Instr.yield k.l0 (c.args.toList.map a.eval).toArray).run P W=.ok (.round k.l0 fn tmps assign body) W→(execOp a.eval o).run P W=.ok (.round k.l0 fn tmps assign body) W:=fun {fn tmps assign body} h=>by
    unfold execOp
    have harr:c.args.map a.eval=(c.args.toList.map a.eval).toArray:=by apply Array.toList_inj.1;simp
    simp only[ho,resolve,hc,hev,Deferred.ofValue,Sem.run_bind,Sem.run_pure,Result.andThen_ok,invoke,harr,Array.empty_append]
    exact h
   rw[frcSt_eq] at hs1 hs2
   have fin:∀{fn tmps assign body} (Z':Nat→Prop),(Instr.yield k.l0 (c.args.toList.map a.eval).toArray).run P W=.ok (.round k.l0 fn tmps assign body) W→RoundIn Fence.wide 0 P k.l0 fn tmps assign body W (fun e W'=>(Upd (fun b=>¬Z' b) W W'∧MapsK W W')∧((e=.returned (.bool true)∧J (some (i+1)) Z' W')∨(e=.returned (.bool false)∧J none Z' W')))→(∀W' m',Upd (fun b=>¬Z' b) W W'→MapsK W W'→J m' Z' W'→RunE P X k J N Wr a0 m' st1 a W')→
     o.uponIn Fence.wide 1 P a (wpOpsIn Fence.wide 1 P ops Q (List.range' (kx+1) n)) Q ((execOp a.eval o).run P W):=fun {fn tmps assign body} Z' h1 h2 h3=>by
    rw[run h1]
    refine⟨fun h=>(by cases h),RoundIn.mono h2 ?_⟩
    rintro e W' ⟨⟨hu,hmk⟩,⟨rfl,hj⟩ | ⟨rfl,hj⟩⟩ <;> rw[hdst]
    ·exact ih (kx+1) _ _ _ W' (by omega) hs1 (RunE.put (h3 W' _ hu hmk hj) hd0 (fun _ _=>rfl))
    ·exact ih (kx+1) _ _ _ W' (by omega) hs2 (RunE.put (h3 W' _ hu hmk hj) hd0 (fun _ _=>rfl))
   rcases hyK with⟨⟨rfl,hvy⟩ | ⟨hfl,hkn⟩,hK⟩ | ⟨hfl,rfl,rfl⟩
   ·-- all that is seen may be seen
    have huy:RepW W g.L y (c.args.toList.map a.eval):=by
     rcases hvy with rfl | rfl
     ·exact hus
     ·exact nzW_rep hus
    obtain⟨fn,tmps,assign,body,h1,h2⟩:=hJ.rd i y Z (fun b=>Z b∧∀o,¬g.L b o) W g.L _ hy hr.j huy hr.lz (fun b h=>h.1) (fun {b o} hl h=>h.2 o hl)
    refine fin _ h1 h2 fun W' m' hu hmk hj=>⟨_,_,_,hr.kept hJ hcap hK hu hmk hj (fun b h=>h.1) (fun {i} hi=>⟨hr.inZ.1 hi,fun o=>hr.hd.mm.bxL hi o⟩) (fun h=>by cases h) (fun r hrm=>⟨hr.mz r hrm,fun o hl=>?_⟩)⟩
    obtain⟨u,hu⟩:=hr.hd.mm.Lc hl
    unfold World.cell? at hu
    dsimp only at hu
    rw[(hr.mo.2 r hrm).2] at hu
    cases hu
   ·-- what was there from the beginning
    obtain⟨_,b2,_,_⟩:=hJ.ba _ _ _ hr.j
    have huy:RepW W k.L0 y (c.args.toList.map a.eval):=RepW.mono b2 _ _ (hkn _ (flats_repW hfl hus))
    obtain⟨fn,tmps,assign,body,h1,h2⟩:=hJ.rd i y Z Z W k.L0 _ hy hr.j huy .inl (fun b h=>h) (fun {b o} hl hz=>by
     obtain⟨u,hu⟩:=hJ.l0 hl
     have h1:=World.block_lt_of_cell? _ _ hu
     exact(c4 b hz).1.elim (fun h2=>by dsimp only at h1;omega) (hJ.lc hl))
    exact fin _ h1 h2 fun W' m' hu hmk hj=>⟨_,_,_,hr.kept hJ hcap hK hu hmk hj (fun b h=>h) (fun {i} hi=>hr.inZ.1 hi) (fun {key e m xs b} hx hb=>hr.inZ.2 (hK.2.2.2.1.at hx).1 hb) hr.mz⟩
   ·-- nothing is seen
    obtain⟨fn,tmps,assign,body,h1,h2⟩:=hJ.rd i _ Z Z W (fun _ _=>False) _ hy hr.j (flats_repW hfl hus) (fun h=>h.elim) (fun b h=>h) (fun h=>h.elim)
    exact fin _ h1 h2 fun W' m' hu hmk hj=>⟨_,_,_,hr.all hJ hu hmk hj⟩
theorem lk_left{l m:List (Nat×T)}{s:Nat}{t:T}(h:lk s l=some t):lk s (l++m)=some t:=by
 induction l with
 | nil=>cases h
 | cons p r ih=>
  rw[List.cons_append]
  unfold lk at h ⊢
  split at h
  ·exact h
  ·exact ih h
theorem lk_right{l m:List (Nat×T)}{s:Nat}(h:lk s l=none):lk s (l++m)=lk s m:=by
 induction l with
 | nil=>rfl
 | cons p r ih=>
  rw[List.cons_append]
  unfold lk at h
  split at h
  ·cases h
  ·rename_i hb
   rw[←ih h]
   show(match Nat.beq s p.1 with | true=>some p.2 | false=>lk s (r++m))=_
   rw[hb]
theorem lk_app{l m:List (Nat×T)}{s:Nat}{t:T}(h:lk s (l++m)=some t):lk s l=some t∨lk s m=some t:=by
 induction l with
 | nil=>exact .inr h
 | cons p r ih=>
  rw[List.cons_append] at h
  by_cases hs:Nat.beq s p.1=true
  ·left
   unfold lk at h ⊢
   rw[hs] at h ⊢
   exact h
  ·have hb:Nat.beq s p.1=false:=Bool.eq_false_iff.2 hs
   have h':lk s (r++m)=some t:=by
    unfold lk at h
    rw[hb] at h
    exact h
   rcases ih h' with h1 | h1
   ·left
    unfold lk
    rw[hb]
    exact h1
   ·exact .inr h1
theorem pin_at{k:Ky}{st:St}{a:Act}{w:World}{g:Gh}(henv:∀t,RepT P w g (tget st.env t) (a.eval (.tmp t))):∀{pins:List (Nat×V)} {s:Nat} {t:T},PinsOk k st pins→lk s (pinE pins)=some t→∃y,t=.v y∧Rep k.w0 k.L0 y (a.tmps.getD s undef)
 | [],s,t,_,h=>by cases h
 | p::r,s,t,⟨h1,h2⟩,h=>by
  unfold pinE lk at h
  split at h
  ·rename_i hb
   have:s=p.1:=Nat.eq_of_beq_eq_true hb
   cases h
   refine⟨p.2,rfl,?_⟩
   split at h1 <;> try exact h1.elim
   rename_i x hx
   have hev:=henv p.1
   rw[hx] at hev
   rw[this]
   exact h1.2 _ (flat_rep x _ h1.1 hev)
  ·exact pin_at henv h2 h
theorem Hd.pin {k:Ky}{st:St}{a:Act}{W:World}{g:Gh}{Z:Nat→Prop}{m:Option Nat}{X':En}{base:Nat}{S:Nat→Prop}(hd:Hd P X' base S st a W g)(hJ:JOk P X k ys J)(hj:J m Z W)(hl0:∀{b o},k.L0 b o→g.L b o)(pins:List (Nat×V))(hp:PinsOk k st pins)(t:Nat):RepT P W g (tget (st.pin pins).env t) (a.eval (.tmp t)):=by
 obtain⟨_,b2,_,_⟩:=hJ.ba _ _ _ hj
 have hs0:Same k.L0 k.w0 g.L W:=⟨fun b o u h1 h2=>⟨hl0 h1,(b2.c b o u h1 h2).2⟩,b2.m⟩
 have he:(st.pin pins).env=pinE pins++st.env:=by cases st;rfl
 rw[he]
 cases hk:lk t (pinE pins) with
 | some x=>
  obtain⟨y,rfl,h⟩:=pin_at hd.env hp hk
  have:tget (pinE pins++st.env) t=.v y:=by
   unfold tget
   rw[lk_left hk]
  rw[this]
  exact Rep.mono hs0 y _ h
 | none=>
  have:tget (pinE pins++st.env) t=tget st.env t:=by
   unfold tget
   rw[lk_right hk]
  rw[this]
  exact hd.env t
theorem y_wp(hT:TabOk P tb)(hm:P.follows .mixedOrders=true)(hJ:JOk P X k ys J):∀(c:Code) (capsE:List (Nat×T)) (Wr:Nat→Prop) (a0:Act),(∀s t,lk s capsE=some t→RepT P k.w0 k.g t (a0.tmps.getD s undef)∧t.pure=true∧¬Wr s)→(∀t∈codeW c,Wr t)→∀(Q:Exit→Option Nat→St→Prop) (m:Option Nat) (st:St) (a:Act) (W:World),(∀ch m st,¬Q (.panic ch) m st)→yCode P X tb k capsE ys c Q m st→RunE P X k J N Wr a0 m st a W→
  c.wpIn Fence.wide 1 P (fun e a' W'=>∃m' st',Q e m' st'∧RunE P X k J N Wr a0 m' st' a' W') a W:=by
 have piece:∀(c:Code) (Wr:Nat→Prop) (a0:Act),(∀t∈codeW c,Wr t)→∀(Q:Exit→St→Prop) (m:Option Nat) (st:St) (a:Act) (W:World),(∀ch st,¬Q (.panic ch) st)→aCode P X tb c Q st→RunE P X k J N Wr a0 m st a W→c.wpIn Fence.wide 1 P (fun e a' W'=>∃st',Q e st'∧RunE P X k J N Wr a0 m st' a' W') a W:=fun c Wr a0 hW Q m st a W hp h ⟨Z,g,ms,hr⟩=>by
  have hw:=code_wp hT hm c (X.plus (notZ Z W) W) (plus_le X _ _) k.w0.heap.size N k.C Fence.wide 1 (.inl rfl) Wr hW Q st a W g hp (fun l hl=>by cases hl) h hr.hd hr.n
  refine wpIn_mono hw ?_
  rintro e a' W' ⟨st',g',q1,q2,q3,q4,q5,q6⟩
  obtain⟨ms',hr'⟩:=hr.step hJ q2 q3 q4 q5 q6
  exact⟨st',q1,_,_,_,hr'⟩
 intro c
 induction c with
 | skip=>intro capsE Wr a0 hcap hW Q m st a W hp h hr;exact wpIn_skip ⟨_,_,h,hr⟩
 | exit id=>intro capsE Wr a0 hcap hW Q m st a W hp h hr;exact wpIn_exit ⟨_,_,h,hr⟩
 | ret=>intro capsE Wr a0 hcap hW Q m st a W hp h hr;exact wpIn_ret ⟨_,_,h,hr⟩
 | label l=>intro capsE Wr a0 hcap hW Q m st a W hp h hr;exact wpIn_label ⟨_,_,h,hr⟩
 | goto l=>intro capsE Wr a0 hcap hW Q m st a W hp h hr;exact h.elim
 | scope b=>intro capsE Wr a0 hcap hW Q m st a W hp h hr;exact h.elim
 | refuse s=>intro capsE Wr a0 hcap hW Q m st a W hp h hr;exact h.elim
 | region id ops draw=>
  intro capsE Wr a0 hcap hW Q m st a W hp h hr
  unfold yCode at h
  split at h
  ·exact wpIn_mono (piece _ Wr a0 hW _ m st a W (fun ch st=>hp ch m st) h hr) fun e a' W' ⟨st',h1,h2⟩=>⟨m,st',h1,h2⟩
  ·split at h
   ·refine wpIn_region ?_
    rw[List.range_eq_range']
    have hWr:∀(j:Nat) (o:Oper) (d:Nat),ops[j]? =some o→o.dst=some d→Wr d:=fun j o d hj ho=>hW d (List.mem_filterMap.2 ⟨o,by simpa using Array.mem_of_getElem? hj,ho⟩)
    exact y_ops hT hJ hcap hWr (fun m' st' a' W' h1 h2=>⟨m',st',h2,h1⟩) ops.size 0 m st a W (by omega) h hr
   ·exact h.elim
 | seq x y ihx ihy=>
  intro capsE Wr a0 hcap hW Q m st a W hp h hr
  unfold yCode at h
  refine wpIn_seq (wpIn_mono (ihx capsE Wr a0 hcap (fun t ht=>hW t (List.mem_append_left _ ht)) (seqY (fun m' st'=>yCode P X tb k capsE ys y Q m' st') Q) m st a W (fun ch m' st' hh=>hp ch m' st' hh) h hr) ?_)
  rintro e a1 W1 ⟨m1,st1,q1,q2⟩
  cases e with
  | normal=>exact ihy capsE Wr a0 hcap (fun t ht=>hW t (List.mem_append_right _ ht)) Q m1 st1 a1 W1 hp q1 q2
  | exit id=>exact⟨m1,st1,q1,q2⟩
  | goto l=>exact⟨m1,st1,q1,q2⟩
  | ret=>exact⟨m1,st1,q1,q2⟩
  | panic ch=>exact⟨m1,st1,q1,q2⟩
  | outgrown=>exact⟨m1,st1,q1,q2⟩
 | cond c x y ihx ihy=>
  intro capsE Wr a0 hcap hW Q m st a W hp h hr
  unfold yCode at h
  obtain⟨Z,g,ms,hr0⟩:=hr
  have hc:=hr0.hd.ev c
  split at h
  ·rename_i hq
   rw[hq] at hc
   exact wpIn_cond_true hc (ihx capsE Wr a0 hcap (fun t ht=>hW t (List.mem_append_left _ ht)) Q m st a W hp h ⟨Z,g,ms,hr0⟩)
  ·rename_i hq
   rw[hq] at hc
   exact wpIn_cond_false hc (ihy capsE Wr a0 hcap (fun t ht=>hW t (List.mem_append_right _ ht)) Q m st a W hp h ⟨Z,g,ms,hr0⟩)
  ·exact h.elim
 | block id b ih=>
  intro capsE Wr a0 hcap hW Q m st a W hp h hr
  refine wpIn_block (wpIn_mono (ih capsE Wr a0 hcap hW (blockY id Q) m st a W (fun ch m' st' hh=>hp ch m' st' hh) h hr) ?_)
  rintro e a1 W1 ⟨m1,st1,q1,q2⟩
  cases e with
  | exit j=>
   unfold blockY at q1
   dsimp only at q1
   split at q1
   ·rename_i hb
    have:j=id:=Nat.eq_of_beq_eq_true hb
    simp only[Exit.inBlock,this,if_true]
    exact⟨m1,st1,q1,q2⟩
   ·rename_i hb
    have:j≠id:=fun e=>by rw[e,Nat.beq_refl] at hb;cases hb
    simp only[Exit.inBlock,this,if_false]
    exact⟨m1,st1,q1,q2⟩
  | normal=>exact⟨m1,st1,q1,q2⟩
  | goto l=>exact⟨m1,st1,q1,q2⟩
  | ret=>exact⟨m1,st1,q1,q2⟩
  | panic ch=>exact⟨m1,st1,q1,q2⟩
  | outgrown=>exact⟨m1,st1,q1,q2⟩
 | loop b ih=>
  intro capsE Wr a0 hcap hW Q m st a W hp h hr
  unfold yCode at h
  obtain⟨pins,hpo,hfr,α,I,ix,inv,rk,⟨x0,σ0,hi0,rfl,hw0⟩,hrd⟩:=h
  have hr0:RunE P X k J N (· ∈codeW b) a (ix x0) (st.pin pins) a W:=by
   obtain⟨Z,g,ms,h⟩:=hr
   refine⟨Z,g,ms,h.j,⟨h.hd.sz,fun t=>?_,h.hd.mm,h.hd.E,h.hd.le⟩,h.lz,h.l0,h.n,fun t _=>rfl,h.df,h.mo,h.mz,h.rho⟩
   have:=h.hd.pin hJ h.j (fun hl=>h.l0 hl) pins hpo t
   exact this
  have hcap':∀s t,lk s (pinE pins++capsE)=some t→RepT P k.w0 k.g t (a.tmps.getD s undef)∧t.pure=true∧¬(s∈codeW b):=fun s t hs=>by
   obtain⟨Z,g,ms,h⟩:=hr
   rcases lk_app hs with h1 | h1
   ·obtain⟨y,hy,h2⟩:=pin_at h.hd.env hpo h1
    exact⟨by rw[hy];exact h2,by rw[hy];rfl,freeE_at hfr (lk_mem h1)⟩
   ·obtain⟨h2,h3,h4⟩:=hcap s t h1
    exact⟨by rw[h.kp s h4];exact h2,h3,fun hb=>h4 (hW s hb)⟩
  have back:∀{m:Option Nat} {st:St} {a1:Act} {W:World},RunE P X k J N (· ∈codeW b) a m st a1 W→RunE P X k J N Wr a0 m st a1 W:=fun {m st a1 W} ⟨Z,g,ms,h⟩=>by
   obtain⟨_,_,_,h0⟩:=hr
   exact⟨Z,g,ms,h.j,h.hd,h.lz,h.l0,h.n,fun t ht=>(h.kp t (fun hb=>ht (hW t hb))).trans (h0.kp t ht),h.df,h.mo,h.mz,h.rho⟩
  have wk:∀{m:Option Nat} {st:St} {a1:Act} {W:World} {x:α} {σ:List (Nat×Option Nat)},RunE P X k J N (· ∈codeW b) a m st a1 W→Wk σ st (I x)→RunE P X k J N (· ∈codeW b) a m (I x) a1 W:=fun {m st a1 W x σ} ⟨Z,g,ms,h⟩ hw=>by
   obtain⟨h1,h2⟩:=h.hd.wk (N:=N) hw
   exact⟨Z,_,ms,h.j,h1,h.lz,h.l0,hw.1.trans h.n,h.kp,h.df,h.mo,h.mz,h.rho⟩
  refine wpIn_loop_ghost (fun kk a1 w1=>∃x,inv x∧rk x=kk∧RunE P X k J N (· ∈codeW b) a (ix x) (I x) a1 w1) (rk x0) ⟨x0,hi0,rfl,wk hr0 hw0⟩ ?_
  rintro kk a1 w1 ⟨x,hix,rfl,hr1⟩
  refine wpIn_mono (ih (pinE pins++capsE) (· ∈codeW b) a hcap' (fun t ht=>ht) (loopY I ix inv rk x Q) (ix x) (I x) a1 w1 (fun ch m' st' hh=>hp ch m' st' hh) (hrd x hix) hr1) ?_
  rintro e a2 w2 ⟨m1,st1,q1,q2⟩
  cases e with
  | normal=>
   obtain⟨y,σ,hiy,rfl,hlt,hw⟩:=q1
   exact⟨rk y,hlt,y,hiy,rfl,wk q2 hw⟩
  | exit id=>exact⟨m1,st1,q1,back q2⟩
  | goto l=>exact⟨m1,st1,q1,back q2⟩
  | ret=>exact⟨m1,st1,q1,back q2⟩
  | panic ch=>exact⟨m1,st1,q1,back q2⟩
  | outgrown=>exact⟨m1,st1,q1,back q2⟩
 | rangeFunc fo ps x y ihx ihy=>
  intro capsE Wr a0 hcap hW Q m st a W hp h hr
  exact wpIn_mono (piece _ Wr a0 hW _ m st a W (fun ch st=>hp ch m st) h hr) fun e a' W' ⟨st',h1,h2⟩=>⟨m,st',h1,h2⟩
def endY(n:Nat):Exit→Option Nat→St→Prop
 | .normal,m,_=>m=some n∨m=none
 | .ret,m,_=>m=some n∨m=none
 | _,_,_=>False
def unscope:Code→Code
 | .scope b=>b
 | c=>c
theorem argsE_mem:∀{k:Nat} {args:List T} {p:Nat×T},p∈argsE k args→p.2∈args
 | _,[],_,h=>by cases h
 | k,t::r,p,h=>by
  rcases List.mem_cons.1 h with rfl | h
  ·exact List.mem_cons_self
  ·exact List.mem_cons_of_mem _ (argsE_mem h)
theorem leaves_y{fn:Func}(hr:fn.results=#[]){tmps:Array Value}{R:Ending→World→Prop}{Pz:(Nat→Prop)→World→Prop}{w0:World}(hp:∀Z W r,Pz Z W→W.heap[r]? =some (.deferred (some []))→Z r→Pz (fun b=>Z b∨(W.heap.size≤b∧b < (W.putObj r (.deferred none)).heap.size)) (W.putObj r (.deferred none)))(hR:∀v Z W',Pz Z W'→R (.returned v) W'):∀(ms:List Nat) (Z:Nat→Prop) (W:World),Pz Z W→MarksOk w0 W ms→(∀r∈ms,Z r)→LeavesInM Fence.wide 1 P fn tmps R (marks ms) .returning W
 | [],Z,W,hj,_,_=>by
  refine⟨.tuple #[],?_,hR _ Z W hj⟩
  unfold results
  rw[hr]
  simp
 | r::ms,Z,W,hj,hm,hz=>by
  obtain⟨h1,h2⟩:=hm.2 r (by simp)
  refine⟨by simp,.inl ⟨r,_,rfl,run_takeDeferred h2,?_⟩⟩
  have hnd:=List.nodup_cons.1 hm.1
  refine leaves_y (w0:=w0) hr hp hR ms _ _ (hp Z W r hj h2 (hz r (by simp))) ⟨hnd.2,fun r' hr'=>?_⟩ (fun r' hr'=>.inl (hz r' (by simp[hr'])))
  obtain⟨h3,h4⟩:=hm.2 r' (by simp[hr'])
  refine⟨h3,?_⟩
  rw[World.putObj_heap_other (fun e=>hnd.1 (by rw[←e];exact hr'))]
  exact h4
theorem MemB.put {W:World}{g:Gh}{css:List (List T)}{r:Nat}{o o0:Obj}(h:MemB P X W g css)(hr:W.heap[r]? =some o0)(h0:o0.isCells=false)(hm:isMapO o0=false):MemB P X (W.putObj r o) g css:=by
 have ne:∀{j},j < css.length→(g.ρ j).1≠r:=fun {j} hj e=>by
  obtain⟨c,t,fr,hc⟩:=h.bc hj
  rw[e,hr] at hc
  cases hc
  cases h0
 refine⟨fun {j cs} hj {k c} hk=>?_,fun {j} hj k=>?_,h.bxL,h.bxE,fun hj=>by rw[World.putObj_size];exact h.lt hj,h.inj,fun {j} hj=>?_⟩
 ·obtain⟨u,h1,h2,h3⟩:=h.box hj hk
  exact⟨u,cell_put hr h0 h1,h2.same ⟨fun b q u h1 h2=>⟨h1,cell_put hr h0 h2⟩,.putObj hr hm⟩ rfl rfl,h3⟩
 ·rw[frozen_old (World.putObj_heap_other (ne hj))];exact h.frz hj k
 ·rw[World.putObj_heap_other (ne hj)];exact h.bc hj
def endG(K:Option Nat→St→Prop):Exit→Option Nat→St→Prop
 | .normal,m,st=>K m st
 | .ret,m,st=>K m st
 | _,_,_=>False
theorem it_core(hT:TabOk P tb)(hm:P.follows .mixedOrders=true)(hJ:JOk P X k ys J){f:FuncId}{fn:Func}{c:Code}{vs:List Value}{st:St}{K:Option Nat→St→Prop}{R:Ending→World→Prop}(hf:P.funcs[f]? =some fn)(hc:fn.body=some c)(ha0:{tmps:=vs.toArray++Array.replicate (fn.ntmps - vs.toArray.size) undef,defers:=[]}=a0)
  (hcap:∀s t,lk s capsE=some t→RepT P k.w0 k.g t (a0.tmps.getD s undef)∧t.pure=true∧¬(s∈codeW c)) (hR:RunE P X k J fn.ntmps (· ∈codeW c) a0 (some 0) st a0 k.w0) (hsem:yCode P X tb k capsE ys (unscope c) (endG K) (some 0) st)
  (hfin:∀m st a W Z g ms,K m st→RunY P X k J fn.ntmps (· ∈codeW c) a0 m st a W Z g ms→LeavesInM Fence.wide 1 P fn a.tmps R (marks ms) .returning W):Calls P f vs.toArray k.w0 R:=by
 have fin:∀(e:Exit) (m:Option Nat) (st:St) (a:Act) (W:World),endG K e m st→RunE P X k J fn.ntmps (· ∈codeW c) a0 m st a W→bodyPostM Fence.wide 1 P fn R e a W:=by
  intro e m st a W he ⟨Z,g,ms,hr⟩
  have key:K m st→LeavesInM Fence.wide 1 P fn a.tmps R a.defers .returning W:=fun hm'=>by
   rw[hr.df]
   exact hfin _ _ _ _ _ _ _ hm' hr
  cases e with
  | normal=>exact key he
  | ret=>exact key he
  | exit id=>exact he.elim
  | goto l=>exact he.elim
  | panic ch=>exact he.elim
  | outgrown=>exact he.elim
 have hp:∀ch m st,¬endG K (.panic ch) m st:=fun ch m st h=>h
 refine callsIn_wide.1 (callsIn_of_wp_marks (n:=1) hf hc trivial ?_)
 rw[ha0]
 by_cases hsc:∃b,c=.scope b
 ·obtain⟨b,rfl⟩:=hsc
  refine wpIn_wide.2 (wp_scope_straight (wpIn_wide (n:=1).1 (wpIn_mono (y_wp hT hm hJ b _ _ _ hcap (fun t ht=>ht) _ _ _ _ _ hp hsem hR) ?_)))
  rintro e a' W' ⟨m',st',h1,h2⟩
  have h3:=fin e m' st' a' W' h1 h2
  cases e with
  | normal=>exact h3
  | ret=>exact h3
  | exit id=>exact h1.elim
  | goto l=>exact h1.elim
  | panic ch=>exact h1.elim
  | outgrown=>exact h1.elim
 ·have hu:unscope c=c:=by
   cases c <;> first | rfl | (exact absurd ⟨_,rfl⟩ hsc)
  rw[hu] at hsem
  refine wpIn_mono (y_wp hT hm hJ c _ _ _ hcap (fun t ht=>ht) _ _ _ _ _ hp hsem hR) ?_
  rintro e a' W' ⟨m',st',h1,h2⟩
  exact fin e m' st' a' W' h1 h2
theorem it_prog(hT:TabOk P tb)(hm:P.follows .mixedOrders=true){f:FuncId}(fn:Func){caps:List T}{ys:List (List V)}(hf:P.funcs[f]? =some fn)(hb:(fn.name== "runtime.NumGoroutine" ||fn.body.isNone)=false)(hres:fn.results.isEmpty=true)(hn:Nat.ble (caps.length+1) fn.ntmps=true)
  (h:∀(k:Ky) (cvs:List Value),X.E k.w0→(∀{b o},k.L0 b o→∃u,k.w0.cell? ⟨b,o,none⟩=some u)→RepTs P k.w0 k.g caps cvs→∃caps',RepTs P k.w0 k.g caps' cvs∧T.pures caps'=true∧freeE (codeW (bodyOf fn)) (argsE 1 caps')=true∧yCode P X tb k (argsE 1 caps') ys (unscope (bodyOf fn)) (endY ys.length) (some 0) (St.head fn.ntmps (.v (.raw (.func (.yield k.l0) #[] #[]))::caps'))):It P X f caps ys:=by
 cases hc:fn.body with
 | none=>rw[hc] at hb;simp at hb
 | some c=>
  have hbd:bodyOf fn=c:=by unfold bodyOf;rw[hc]
  rw[hbd] at h
  refine⟨enter_of (by rw[hf,Option.map_some,hb]),fun l0 g0 cvs w0 J hE hL hmb ha h0 hst han hba hrd=>?_⟩
  have hvl0:=ha.length
  obtain⟨caps',ha',hpu,hfree,hsem⟩:=h ⟨w0,g0,l0,0⟩ cvs hE hL ha
  have hlc:caps'.length=caps.length:=by rw[←ha'.length,←hvl0]
  rw[←hlc] at hn
  clear ha h hvl0 hlc
  have ha:=ha'
  clear ha'
  generalize caps'=caps at*
  have no:∀{b},¬inB g0 0 b:=fun⟨j,hj,_⟩=>by omega
  have hJ:JOk P X ⟨w0,g0,l0,0⟩ ys J:=⟨hst,han,hba,hrd,hL,fun _=>no,fun h=>(no h).elim⟩
  have hr0:fn.results=#[]:=by simpa using hres
  have hn':=Nat.le_of_ble_eq_true hn
  have hvl:=ha.length
  generalize hvs:Value.func (.yield l0) #[] #[]::cvs=vs
  have hargs:RepTs P w0 (g0.sh fn.ntmps) (.v (.raw (.func (.yield l0) #[] #[]))::caps) vs:=⟨_,_,hvs.symm,rfl,RepTs.pure (g:=g0) (g':=g0.sh fn.ntmps) hpu (Same.refl _ _) ha⟩
  have harr:(#[.func (.yield l0) #[] #[]]++cvs.toArray:Array Value)=vs.toArray:=by rw[←hvs];simp
  rw[harr]
  have hvl2:=hargs.length
  generalize ha0:({tmps:=vs.toArray++Array.replicate (fn.ntmps - vs.toArray.size) undef,defers:=[]}:Act)=a0
  have hat:∀t,a0.tmps.getD t undef=vs.getD t undef:=fun t=>by
   rw[←ha0]
   show((vs.toArray++Array.replicate (fn.ntmps - vs.toArray.size) undef).getD t undef)=_
   rw[Array.getD_eq_getD_getElem?,List.getD_eq_getElem?_getD]
   by_cases ht:t < vs.length
   ·rw[Array.getElem?_append_left (by simpa using ht)];simp
   ·rw[Array.getElem?_append_right (by simpa using ht),List.getElem?_eq_none (by omega)]
    by_cases h2:t - vs.toArray.size < fn.ntmps - vs.toArray.size
    ·rw[Array.getElem?_replicate,if_pos h2];rfl
    ·rw[Array.getElem?_replicate,if_neg h2]
  have hd:Hd P (X.plus (notZ (inB g0 0) w0) w0) w0.heap.size (inB g0 0) (St.head fn.ntmps (.v (.raw (.func (.yield l0) #[] #[]))::caps)) a0 w0 (g0.sh fn.ntmps):=by
   refine⟨by rw[←ha0];simp[St.head];simp at hvl2;omega,fun t=>?_,⟨fun hi=>(by cases hi),fun hi=>(by cases hi),fun hi=>(by cases hi),fun hi=>(by cases hi),fun hi=>(by cases hi),fun hi=>(by cases hi),fun hi=>(by cases hi),fun hi=>(by cases hi),fun hi=>(by cases hi),hL,fun hi=>(by cases hi),fun hi=>(by cases hi)⟩,⟨hE,fun b hb=>⟨rfl,hb.1⟩⟩,Nat.le_refl _⟩
   have:=argsE_get 0 t hargs
   rw[if_neg (by omega),Nat.sub_zero] at this
   refine Eq.mpr ?_ this
   congr 1
   exact hat t
  have hcap:∀s t,lk s (argsE 1 caps)=some t→RepT P w0 g0 t (a0.tmps.getD s undef)∧t.pure=true∧¬(s∈codeW c):=fun s t hs=>by
   have hmem:=lk_mem hs
   refine⟨?_,pures_mem hpu (argsE_mem hmem),freeE_at hfree hmem⟩
   have:=argsE_get 1 s ha
   rw[show tget (argsE 1 caps) s=t from by unfold tget;rw[hs]] at this
   by_cases hs0:s < 1
   ·exfalso
    have hs0':s=0:=by omega
    subst hs0'
    have:∀(l:List T) (k:Nat),1≤k→lk 0 (argsE k l)=none:=by
     intro l
     induction l with
     | nil=>intro k _;rfl
     | cons x r ih=>intro k hk;show lk 0 ((k,x)::argsE (k+1) r)=none;rw[lk_cons_ne _ _ (by omega)];exact ih (k+1) (by omega)
    rw[this caps 1 (Nat.le_refl _)] at hs
    cases hs
   ·rw[if_neg hs0] at this
    rw[hat s,←hvs]
    have e:s=(s - 1)+1:=by omega
    rw[e,List.getD_cons_succ]
    exact this
  refine it_core (k:=⟨w0,g0,l0,0⟩) hT hm hJ (K:=fun m _=>m=some ys.length∨m=none) hf hc ha0 hcap ⟨inB g0 0,g0.sh fn.ntmps,[],h0,hd,.inl,fun h=>h,rfl,fun _ _=>rfl,by rw[←ha0];rfl,MarksOk.nil _ _,fun r hr=>(by cases hr),fun _=>rfl⟩ ?_ fun m st a W Z g ms hm' hr=>?_
  ·rw[show endG (fun m _=>m=some ys.length∨m=none)=endY ys.length from by funext e m st;cases e <;> rfl]
   exact hsem
  ·refine leaves_y hr0 (tmps:=a.tmps) (Pz:=J m) (fun Z W r h h2 hz=>hJ.st _ _ _ _ h ((putObj_upd W r _).mono fun b hb=>by rw[hb];exact hz) (.putObj h2 rfl)) (fun v Z W' h=>⟨⟨v,rfl⟩,?_⟩) ms Z W hr.j hr.mo hr.mz
   rcases hm' with rfl | rfl
   ·exact .inl ⟨Z,fun _ _=>False,h,fun b hb=>(no hb).elim,fun h=>h.elim,fun h=>h.elim,memB_nil⟩
   ·exact .inr ⟨Z,h⟩
theorem itM_prog(hT:TabOk P tb)(hm:P.follows .mixedOrders=true){f:FuncId}(fn:Func){css css':List (List T)}{caps:List T}{ys:List (List V)}(hf:P.funcs[f]? =some fn)(hb:(fn.name== "runtime.NumGoroutine" ||fn.body.isNone)=false)(hres:fn.results.isEmpty=true)(hn:Nat.ble (caps.length+1) fn.ntmps=true)(hk:T.noKs caps=true)(hp:T.noKss css=true)(hp':T.noKss css'=true)(hl:css'.length=css.length)
  (h:∀k:Ky,X.E k.w0→yCode P X tb k [] ys (unscope (bodyOf fn)) (endG fun m st=>m=none∨(m=some ys.length∧bxEnd st fn.ntmps (shiftTss fn.ntmps css'))) (some 0) (St.headM fn.ntmps (.v (.raw (.func (.yield k.l0) #[] #[]))::caps) css)):ItM P X f css caps ys css':=by
 cases hc:fn.body with
 | none=>rw[hc] at hb;simp at hb
 | some c=>
  have hbd:bodyOf fn=c:=by unfold bodyOf;rw[hc]
  rw[hbd] at h
  refine⟨enter_of (by rw[hf,Option.map_some,hb]),fun l0 g0 cvs w0 J hE hL hmb ha h0 hst han hba hrd=>?_⟩
  have hsem:=h ⟨w0,g0,l0,css.length⟩ hE
  have hJ:JOk P X ⟨w0,g0,l0,css.length⟩ ys J:=⟨hst,han,hba,hrd,hL,fun {b o} hl ⟨j,hj,e⟩=>hmb.bxL hj o (by rw[←e];exact hl),fun⟨j,hj,e⟩=>by rw[e];exact hmb.lt hj⟩
  have hr0:fn.results=#[]:=by simpa using hres
  generalize hvs:Value.func (.yield l0) #[] #[]::cvs=vs
  have hargs:RepTs P w0 g0 (.v (.raw (.func (.yield l0) #[] #[]))::caps) vs:=⟨_,_,hvs.symm,rfl,ha⟩
  have harr:(#[.func (.yield l0) #[] #[]]++cvs.toArray:Array Value)=vs.toArray:=by rw[←hvs];simp
  rw[harr]
  have hd:=headM (args:=.v (.raw (.func (.yield l0) #[] #[]))::caps) (n:=fn.ntmps) hn (by rw[T.noKs,hk];rfl) hp hE hL hmb hargs
  have hd1:Hd P (X.plus (notZ (inB g0 css.length) w0) w0) w0.heap.size (inB g0 css.length) (St.headM fn.ntmps (.v (.raw (.func (.yield l0) #[] #[]))::caps) css) _ w0 (g0.sh fn.ntmps):=hd.plus (fun b hb=>hb.1) (fun i hi hz=>hz.2 (by
   obtain⟨cs,hcs⟩:=Option.isSome_iff_exists.1 hi
   obtain⟨j,rfl,hj⟩:=boxesAt_lk _ _ _ _ hcs
   rw[shiftTss_get] at hj
   obtain⟨c0,hj,_⟩:=Option.map_eq_some_iff.1 hj
   exact⟨j,(List.getElem?_eq_some_iff.1 hj).1,by rw[Gh.sh_at]⟩)) (fun _ _ _ hk=>by cases hk)
  refine it_core (k:=⟨w0,g0,l0,css.length⟩) (capsE:=[]) hT hm hJ hf hc rfl (fun s t hs=>by cases hs) ⟨inB g0 css.length,g0.sh fn.ntmps,[],h0,hd1,.inl,fun h=>h,rfl,fun _ _=>rfl,rfl,MarksOk.nil _ _,fun r hr=>(by cases hr),fun _=>rfl⟩ hsem fun m st a W Z g ms hm' hr=>?_
  rcases hm' with rfl | ⟨rfl,hbe⟩
  ·exact leaves_y hr0 (tmps:=a.tmps) (Pz:=J none) (fun Z W r h h2 hz=>hJ.st _ _ _ _ h ((putObj_upd W r _).mono fun b hb=>by rw[hb];exact hz) (.putObj h2 rfl)) (fun v Z W' h=>⟨⟨v,rfl⟩,.inr ⟨Z,h⟩⟩) ms Z W hr.j hr.mo hr.mz
  have at_:∀{j:Nat},j < css.length→∃c cs,lk (fn.ntmps+j) st.bs=some c∧css'[j]? =some cs∧LeTs c (shiftTs fn.ntmps cs):=fun {j} hj=>by
   have h1:css'[j]? =some css'[j]:=List.getElem?_eq_getElem (by omega)
   obtain⟨c,h2,h3⟩:=bxEnd_get (j:=j) hbe (by rw[shiftTss_get,h1];rfl)
   exact⟨c,_,h2,h1,h3⟩
  have hK:∀{j:Nat},j < css.length→isK st.bs (fn.ntmps+j):=fun {j} hj=>by
   obtain⟨c,cs,h1,_⟩:=at_ hj
   unfold isK;rw[h1];rfl
  have hρ:∀j,g.ρ (fn.ntmps+j)=g0.ρ j:=fun j=>(hr.rho (Nat.le_add_right _ _)).trans (Gh.sh_at _ _ _)
  have hm0:MemB P X W {g0 with L:=g.L} css':=by
   have lt:=fun {j:Nat} (hj:j < css'.length)=>hK (j:=j) (by omega)
   refine⟨fun {j cs} hj {kk c} hkk=>?_,fun {j} hj kk=>?_,fun {j} hj kk=>?_,fun {j} hj=>?_,fun {j} hj=>?_,fun {i j} hi hj hij=>?_,fun {j} hj=>?_⟩
   ·obtain⟨c1,cs1,h1,h2,h3⟩:=at_ (j:=j) (by have:=(List.getElem?_eq_some_iff.1 hj).1;omega)
    rw[hj] at h2
    cases h2
    obtain⟨c0,h4,h5⟩:=LeTs.get h3 (k:=kk) (c:=shiftT fn.ntmps c) (by rw[shiftTs_get,hkk];rfl)
    obtain⟨u,h6,h7,h8⟩:=hr.hd.mm.box h1 h4
    rw[hρ] at h6
    exact⟨u,h6,unshiftT (g:=g) (g':={g0 with L:=g.L}) rfl hρ _ _ (noKs_get (noKss_get hp' hj) hkk) (LeT.rep _ _ _ h5 h7),h8⟩
   ·have:=hr.hd.mm.frz (lt hj) kk;rwa [hρ] at this
   ·have:=hr.hd.mm.bxL (lt hj) kk;rwa [hρ] at this
   ·have:=hr.hd.mm.bxE (lt hj);rw[hρ] at this;exact fun h=>this (.inl h)
   ·have:=hr.hd.mm.lt (lt hj);rwa [hρ] at this
   ·have:=hr.hd.mm.inj (lt hi) (lt hj) (by omega);rwa [hρ,hρ] at this
   ·have:=hr.hd.mm.bc (lt hj);rwa [hρ] at this
  refine leaves_y hr0 (tmps:=a.tmps) (Pz:=fun Z W=>J (some ys.length) Z W∧(∀b,inB g0 css.length b→Z b)∧(∀{b o},g.L b o→g0.L b o∨Z b)∧(∀{b o},g.L b o→∃u,W.cell? ⟨b,o,none⟩=some u)∧MemB P X W {g0 with L:=g.L} css') (fun Z W r ⟨h,q1,q2,q3,q4⟩ h2 hz=>⟨hJ.st _ _ _ _ h ((putObj_upd W r _).mono fun b hb=>by rw[hb];exact hz) (.putObj h2 rfl),fun b hb=>.inl (q1 b hb),fun hl=>(q2 hl).imp id .inl,fun hl=>let ⟨u,hu⟩:=q3 hl;⟨u,cell_put h2 rfl hu⟩,q4.put h2 rfl rfl⟩)
   (fun v Z W' ⟨h,q1,q2,q3,q4⟩=>⟨⟨v,rfl⟩,.inl ⟨Z,g.L,h,q1,q2,q3,q4⟩⟩) ms Z W ⟨hr.j,fun b ⟨j,hj,e⟩=>?_,fun hl=>(hr.lz hl).imp id And.left,hr.hd.mm.Lc,hm0⟩ hr.mo hr.mz
  have:=hr.inZ.1 (hK hj)
  rw[hρ] at this
  rw[e];exact this
end Go.Proofs.YtknelogmocedeaaGreatDoor
