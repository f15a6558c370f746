/- What the rows' condition on the package-level variables gives the walks (the sentinels, the decoder's two tables, MaxLen's number), and a world that meets it. No conditions. -/
import Derived.Test.YtknelogmocedeaaGreatDoorRows
import Derived.Test.YtknelogmocedeaaGreatDoorR01
import Derived.ChangeSame
import Derived.ChangeVars
import Derived.JoinedOf
import Derived.RowKit
import Derived.RowKitTokens
import Derived.LaidLaws
import Derived.LaidHandle
import Derived.LaidMore
import Derived.ProofKit
import Derived.OpenShut
import Derived.Stop.Joined
import Derived.Stop.LaidErr
import Derived.Lib.LaidU8T
import Derived.Deep.DeepLaidRun
import Derived.Shelf.Vars
import Derived.Handed
import Derived.Lay
import Derived.Test.YtknelogmocedeaaGreatDoorR11
import Derived.Test.YtknelogmocedeaaGreatDoorR15
namespace Go.Proofs.YtknelogmocedeaaGreatDoor
open Go.RowKit
set_option linter.unusedVariables false
def senDatum(text:List UInt8):DataW Unit:=.iface "*errors.errorString" (.ptr (.agg [.lit (.string text)]))
theorem sens{P:Program}{W:World}{ti tp te ts:TypeId}{ms:Array (String×TypeId)}{f:Field}(hi:P.underlying ti=some (.interface ms))(hrow:∀u,P.typeName? 3 u=some "*errors.errorString" →u=tp)
  (hp:P.underlying tp=some (.pointer te)) (he:P.underlying te=some (.struct #[f])) (hft:f.type=ts) (hfo:f.offset=0) (hs:P.underlying ts=some .string) (hc:P.cellsOf te=1) (hcs:P.cellsOf ts=1):
  ∀ (L : List (String × List UInt8 × Nat)) (ps : List MemPlace), DataW.LaidVars P W (L.map fun x => (x.1, senDatum x.2.1)) ps → (∀ x ∈ L, P.globalNamed x.1 = some x.2.2 ∧ (P.globals[x.2.2]?).map (·.type) = some ti) → (L.map (·.2.2)).Nodup → ps.Nodup →
   (∀b off,MemPlace.cell b off∈ps→(∃c t,W.heap[b]? =some (.cells c t (0,0)))∧∀u v,W.cell? ⟨b,off,none⟩=some (.iface u v)→Value.okWide P W .any 0 u v)→
   ∃q:Nat→Addr,(∀x∈L,W.cell? ⟨x.2.2,0,none⟩=some (.iface tp (.pointer (some (q x.2.2))))∧(∃c t,W.heap[(q x.2.2).block]? =some (.cells c t (0,0)))∧MemPlace.cell (q x.2.2).block (q x.2.2).off∈ps)∧
    ∀x∈L,∀y∈L,x.2.2≠y.2.2→q x.2.2≠q y.2.2
 | [],ps,_,_,_,_,_=>⟨fun _=>⟨0,0,none⟩,fun x h=>(by cases h),fun x h=>(by cases h)⟩
 | (n,text,g)::r,ps,h,hg,hn,hnd,hrows=>by
  obtain⟨g',t',cs,fu,p,q,h1,h2,h3,h4,h5,rfl⟩:=h
  obtain⟨hg1,hg2⟩:=hg _ List.mem_cons_self
  obtain rfl:=Option.some.inj (hg1.symm.trans h1)
  obtain rfl:=Option.some.inj (hg2.symm.trans h2)
  obtain⟨l0⟩:=cs
  have ok0:∀u v,l0=[.iface u v]→Value.okWide P W .any 0 u v:=fun u v e=>by
   subst e
   exact(hrows g 0 (by simp[MemPlace.row])).2 u v (by simpa using World.var?_cell h1 h3 0)
  obtain⟨a,s,rfl,hc0,_,_,rfl⟩:=errorString_of_trod hi hrow hp he hft hfo hs hc hcs h4 ok0
  have hnd2:=(List.nodup_append.1 hnd)
  obtain⟨q',hq1,hq2⟩:=sens hi hrow hp he hft hfo hs hc hcs r q h5 (fun x hx=>hg x (List.mem_cons_of_mem _ hx)) (List.nodup_cons.1 hn).2 hnd2.2.1 (fun b off hb=>hrows b off (List.mem_append_right _ hb))
  have hgr:∀x∈r,x.2.2≠g:=by
   intro x hx e
   apply(List.nodup_cons.1 hn).1
   show g∈r.map (fun x=>x.2.2)
   rw[←e]
   exact List.mem_map_of_mem (f:=fun x:String×List UInt8×Nat=>x.2.2) hx
  have hin:MemPlace.cell a.block a.off∈MemPlace.row ⟨g,0,none⟩ 1++MemPlace.row a 1:=by simp[MemPlace.row]
  refine⟨fun k=>if k=g then a else q' k,?_,?_⟩
  ·intro x hx
   rcases List.mem_cons.1 hx with rfl | hx
   ·refine⟨by simpa using World.var?_cell h1 h3 0,?_,?_⟩
    ·have:=(hrows a.block a.off (List.mem_append_left _ hin)).1
     simpa using this
    ·have:=List.mem_append_left q hin
     simpa using this
   ·obtain⟨c1,c2,c3⟩:=hq1 x hx
    simp only[if_neg (hgr x hx)]
    exact⟨c1,c2,List.mem_append_right _ c3⟩
  ·have far:∀x∈r,a≠q' x.2.2:=by
    intro x hx e
    have c3:=(hq1 x hx).2.2
    rw[←e] at c3
    exact hnd2.2.2 _ hin _ c3 rfl
   intro x hx y hy hne
   rcases List.mem_cons.1 hx with rfl | hx
   ·rcases List.mem_cons.1 hy with rfl | hy
    ·exact absurd rfl hne
    ·simp only[if_neg (hgr y hy)]
     simpa using far y hy
   ·rcases List.mem_cons.1 hy with rfl | hy
    ·simp only[if_neg (hgr x hx)]
     simpa using (far x hx).symm
    ·simp only[if_neg (hgr x hx),if_neg (hgr y hy)]
     exact hq2 x hx y hy hne
def senList:List (String×List UInt8×Nat):=[("latiner/prim.errNumber",[110,111,32,110,117,109,98,101,114],10),("latiner/prim.errBool",[110,111,32,98,111,111,108,101,97,110],8),("latiner/size.errShort",[116,111,111,32,115,104,111,114,116],12),("latiner/size.errForm",[110,111,32,108,101,110,103,116,104],13),("latiner/size.errSize",[116,111,111,32,103,114,101,97,116],11),("latiner/code.errCode",[110,111,32,99,111,100,101],17),("latiner/tlv.errShort",[116,111,111,32,115,104,111,114,116],4),("latiner/tlv.errForm",[109,111,114,101,32,98,101,104,105,110,100,32,105,116],5),("latiner/tlv.errTag",[110,111,32,116,97,103],6),("latiner/tlv.errNode",[110,111,32,116,114,101,101],0),("latiner/esc.errEscape",[110,111,32,118,97,108,117,101],14),("latiner/dn.errDn",[110,111,32,110,97,109,101],2),("latiner/part.errPart",[110,111,32,112,97,114,116],1),("latiner/rep.errRep",[110,111,32,114,101,115,112,111,110,115,101],3)]
theorem own:ownKnob Tryz.prog.godebug=none:=by kernel_rfl
theorem rowES(u:TypeId)(h:Tryz.prog.typeName? 3 u=some "*errors.errorString"):u=348:=
 typeName_ptr_named (nm:= "errors.errorString") (by kernel_rfl) (by kernel_rfl) (by decide) u h
theorem et:Tryz.prog.globalNamed "errors.errorType" =some 7:=by kernel_rfl
theorem rt:(Tryz.prog.cutTypes.find? (·.1== "internal/reflectlite.rtype")).map (·.2)=some 263:=by kernel_rfl
theorem oneRow:((List.range Tryz.prog.types.size).filter fun t=>Tryz.prog.rowNamed t [101,114,114,111,114])=[98]:=by kernel_rfl
def laidAll:List (String×DataW Unit):=[("unicode/utf8.acceptRanges",Rows.laid_unicode_utf8_acceptRanges),("errors.errorType",Rows.laid_errors_errorType),("latiner/prim.errNumber",Rows.laid_latiner_prim_errNumber),("latiner/prim.errBool",Rows.laid_latiner_prim_errBool),("latiner/size.errShort",Rows.laid_latiner_size_errShort),("latiner/size.errForm",Rows.laid_latiner_size_errForm),("latiner/size.errSize",Rows.laid_latiner_size_errSize),("latiner/code.errCode",Rows.laid_latiner_code_errCode),("latiner/tlv.errShort",Rows.laid_latiner_tlv_errShort),("latiner/tlv.errForm",Rows.laid_latiner_tlv_errForm),("latiner/tlv.errTag",Rows.laid_latiner_tlv_errTag),("latiner/tlv.errNode",Rows.laid_latiner_tlv_errNode),("latiner/esc.errEscape",Rows.laid_latiner_esc_errEscape),("latiner/dn.errDn",Rows.laid_latiner_dn_errDn),("latiner/part.errPart",Rows.laid_latiner_part_errPart),("latiner/rep.errRep",Rows.laid_latiner_rep_errRep),("unicode/utf8.first",Rows.laid_unicode_utf8_first)]
theorem laid_sub{P:Program}{W:World}(f:String×DataW Unit→Bool):∀{l:List (String×DataW Unit)} {ps:List MemPlace},DataW.LaidVars P W l ps→∃qs,DataW.LaidVars P W (l.filter f) qs∧qs.Sublist ps
 | [],ps,h=>⟨ps,h,List.Sublist.refl _⟩
 | (n,d)::r,ps,h=>by
  obtain⟨g,t,cs,fuel,p,q,h1,h2,h3,h4,h5,rfl⟩:=h
  obtain⟨qs,k1,k2⟩:=laid_sub f h5
  rw[List.filter_cons]
  split
  ·exact⟨_,⟨g,t,cs,fuel,p,qs,h1,h2,h3,h4,k1,rfl⟩,List.Sublist.append (List.Sublist.refl _) k2⟩
  ·exact⟨qs,k1,k2.trans (List.sublist_append_right _ _)⟩
def isSen(x:String×DataW Unit):Bool:=senList.any fun y=>y.1==x.1
def laidPlain:List (String×DataW Unit):=laidAll.filter fun x=>x.2.handleName?.isNone
theorem filtered:laidPlain.filter isSen=senList.map fun x=>(x.1,senDatum x.2.1):=by kernel_rfl
theorem handles:(laidAll.filter fun x=>x.2.handleName?.isSome)=[("errors.errorType",Rows.laid_errors_errorType)]:=by kernel_rfl
theorem senGood:∀x∈senList,Tryz.prog.globalNamed x.1=some x.2.2∧(Tryz.prog.globals[x.2.2]?).map (·.type)=some 98:=by
 intro x hx
 have h:senList.all (fun x=>(Tryz.prog.globalNamed x.1==some x.2.2)&&((Tryz.prog.globals[x.2.2]?).map (·.type)==some 98))=true:=by kernel_rfl
 have h1:=List.all_eq_true.1 h x hx
 simp only[Bool.and_eq_true,beq_iff_eq] at h1
 exact h1
theorem globs_of_laid{W:World}(h:laidMetH Tryz.prog laidAll W):∃p,Globs W p:=by
 unfold laidMetH at h
 rw[handles] at h
 obtain⟨⟨ps0,h10,h20,h30⟩,h4⟩:=h
 obtain⟨ps,h1,hsub⟩:=laid_sub isSen (l:=laidPlain) h10
 rw[filtered] at h1
 have h2:=hsub.nodup h20
 have h3:=fun b off hb=>h30 b off (hsub.mem hb)
 obtain⟨q,hq1,hq2⟩:=sens (P:=Tryz.prog) Tryz.underlying98 rowES Tryz.underlying348 Tryz.underlying366 rfl rfl Tryz.underlying9 (by kernel_rfl) (by kernel_rfl) senList ps h1 senGood (by decide) h2 h3
 have hin:∀g,g∈senNums→∃x∈senList,x.2.2=g:=by decide
 refine⟨q,?_,?_,?_,?_⟩
 ·intro g hg
  obtain⟨x,hx,rfl⟩:=hin g hg
  exact(hq1 x hx).1
 ·intro g hg
  obtain⟨x,hx,rfl⟩:=hin g hg
  exact(hq1 x hx).2.1
 ·intro g k hg hk hne
  obtain⟨x,hx,rfl⟩:=hin g hg
  obtain⟨y,hy,rfl⟩:=hin k hk
  exact hq2 x hx y hy hne
 ·obtain⟨name,u,ty,e1,e2,e3,e4,e5⟩:=h4 _ (List.mem_singleton.2 rfl)
  have en:name=[101,114,114,111,114]:=(Option.some.inj e1).symm
  subst en
  obtain rfl:=Option.some.inj (rt.symm.trans e2)
  have hm:ty∈(List.range Tryz.prog.types.size).filter fun t=>Tryz.prog.rowNamed t [101,114,114,111,114]:=List.mem_filter.2 ⟨List.mem_range.2 e3,e4⟩
  rw[oneRow] at hm
  obtain rfl:=List.mem_singleton.1 hm
  have hh:typeHandle Tryz.prog 98=.pointer (some ⟨19,98,none⟩):=by kernel_rfl
  rw[hh] at e5
  simpa using World.var?_cell et e5 0
theorem u8types:U8Types Tryz.prog Shelf.Laysn197_ren:=⟨by kernel_rfl,by kernel_rfl,by kernel_rfl,by kernel_rfl⟩
theorem firstEq:Rows.laid_unicode_utf8_first=Lib.firstData:=by kernel_rfl
theorem acceptEq:(Rows.laid_unicode_utf8_acceptRanges:DataW Unit)=Lib.acceptData:=by kernel_rfl
theorem tabs_of_laid{W:World}(h:laidMetH Tryz.prog laidAll W):Lib.Utf8Tabs 15 16 W:=by
 unfold laidMetH at h
 rw[handles] at h
 have hm:∀n d,((n,d):String×DataW Unit)∈laidAll→d.handleName?.isNone=true→(n,d)∈laidPlain:=fun n d h1 h2=>List.mem_filter.2 ⟨h1,h2⟩
 refine utf8Tabs_of_readsT u8types ⟨by kernel_rfl,by kernel_rfl,by kernel_rfl,by kernel_rfl,by kernel_rfl,by kernel_rfl,by kernel_rfl⟩ ?_ ?_
 ·rw[←firstEq]
  exact Lib.laidMet.reads h.1 (hm _ _ (by simp[laidAll]) (by kernel_rfl))
 ·rw[←acceptEq]
  exact Lib.laidMet.reads h.1 (hm _ _ (by simp[laidAll]) (by kernel_rfl))
theorem env_of_laid{W:World}(h:laidMetH Tryz.prog laidAll W)(hs:W.ShapedOpen Tryz.prog):∃p,Env W p:=by
 obtain⟨p,hp⟩:=globs_of_laid h
 exact⟨p,hp,cell_of_shapedOpen_int (P:=Tryz.prog) (g:=9) (t:=3) (zero:=#[.int .i64 0]) hs (of_decide_eq_true (by kernel_rfl)) (by kernel_rfl) rfl (by kernel_rfl) (by kernel_rfl) Tryz.underlying3,tabs_of_laid h⟩
noncomputable def startW (os:Os):World:=(World.doorLaid Tryz.prog 400 os).layVars Tryz.prog [("unicode/utf8.first",Rows.laid_unicode_utf8_first)]
theorem startW_os(os:Os):(startW os).os=os:=(World.layVars_os _ _ _).trans rfl
theorem startW_shaped(os:Os)(args:Array Value):((startW os).forCall (fun _ _=>0) ⟨#[],args,[]⟩).Shaped Tryz.prog:=World.shaped_of_RefB (by kernel_rfl) (by kernel_rfl)
theorem door_met(os:Os)(args:Array Value):laidMetH Tryz.prog laidAll ((startW os).forCall (fun _ _=>0) ⟨#[],args,[]⟩).memory:=
 laidMetH_of_parts3 (fuel:=8) (laidMet_of_run3 8 (by kernel_rfl) (by kernel_rfl) (by kernel_rfl)) (by kernel_rfl) (by kernel_rfl)
theorem change_and_shaped{H:Type}{enc:TypeId×Value→H}{a:Assume}{C:Checked}{os:Os}{f:FuncId}{fn:Func}{s:ChangeSpec}{conds:List PathCond}{apart fresh handsOn again:Bool}{X:World→Array Value→Prop}
  (hX:∀(w w':World) (args:Array Value),w.heap=w'.heap→X w args→X w' args)
  (own:ownKnob C.prog.godebug=none) (started:os.Started) (noInit:C.prog.inits.idxOf? f=none) (hfn:C.prog.funcs[f]? =some fn)
  (witness:∃(w:World) (tape:Tape) (i:Input),w.os=os∧(w.forCall tape i).Shaped C.prog∧i.vars=[]∧Input.okWide C.prog (w.forCall tape i) .any w.heap.size f i∧
   ((s.pre enc C.prog fn conds apart (w.forCall tape i).memory i.args∧X (w.forCall tape i).memory i.args)∧sizedMet enc C.prog fn (OpenSpec.ofChange s) apart (w.forCall tape i).memory i.args)∧a.holds C.prog (lone (Frame.enter C.prog f i.args .normal) [] (w.forCall tape i)))
  (contract:∀(W:World) (base:Nat) (args:Array Value) (ds gs:List (DataW H)) (before:List MemPlace),
   (∀(j:Nat) t v,fn.params[j]? =some t→args[j]? =some v→Value.okWide C.prog W .any base t v)→
   DataW.Whole enc C.prog fn.params.toList s.vars apart W args.toList ds gs before→X W args→W.ShapedOpen C.prog→
   Calls C.prog f args W fun e W'=>∃v,e=.returned v∧s.post enc C.prog fn apart fresh handsOn again W args v W'):
  ReturnsInHanded a C os f .any (fun w args=>(s.pre enc C.prog fn conds apart w args∧X w args)∧sizedMet enc C.prog fn (OpenSpec.ofChange s) apart w args) (s.post enc C.prog fn apart fresh handsOn again):=by
 refine returnsInHanded_of_calls own started noInit witness ?_
 intro w tape i _ hsh _ hok hpre hholds
 obtain⟨_,_,_,fn',hfn',_,_,_,_,hval⟩:=hok
 have e:fn'=fn:=Option.some.inj (hfn'.symm.trans hfn)
 subst e
 obtain⟨⟨⟨ds,gs,before,hw,hc⟩,hx⟩,hz⟩:=hpre
 have hw':=DataW.Whole.of_heap (w':=w.forCall tape i) (by rfl) hw
 refine(contract (w.forCall tape i) w.heap.size i.args ds gs before hval hw' (hX _ _ _ (by rfl) hx) hsh).mono fun e W' ⟨v,he,hp⟩=>?_
 subst he
 exact ChangeSpec.post_blind hp
end Go.Proofs.YtknelogmocedeaaGreatDoor
