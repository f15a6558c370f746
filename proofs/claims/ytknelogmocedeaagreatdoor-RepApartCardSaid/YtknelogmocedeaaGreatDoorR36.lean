/- Several texts, one behind the other. part, cards: what reads of the types of parts, and of lists of trees, is one. filt, cards: what reads of a filter's type is a filter. Messages, cards: what reads of a message's type is a message. -/
import Derived.Test.YtknelogmocedeaaGreatDoorR35
import Derived.Test.YtknelogmocedeaaGreatDoorR29
import Derived.Test.YtknelogmocedeaaGreatDoorR30
namespace Go.Proofs.YtknelogmocedeaaGreatDoor.Pa
open Go.RowKit Tl
open Fi (encS)
set_option linter.unusedVariables false
theorem opV_zero{P:Program}{w:World}{t:TypeId}{G:List V→Prop}:OpV P w 0 t G:=fun H enc fuel hf cs y h=>by
 obtain rfl:fuel=0:=by omega
 simp[DataW.trod] at h
theorem opV_sliceA{P:Program}{w:World}{t e:TypeId}{G:List V→Prop}(ht:P.underlying t=some (.slice e))(hk0:0 < P.cellsOf e)(he:∀n,OpV P w n e G):∀n,OpV P w n t (GSl G)
 | 0=>opV_zero
 | n+1=>opV_slice ht hk0 (he n)
theorem opV_structA{P:Program}{w:World}{t:TypeId}{fs:Array Field}{Gs:List (List V→Prop)}(ht:P.underlying t=some (.struct fs))(hc:P.cellsOf t=total P fs.toList)(hf:∀n,Flds P w n 0 fs.toList Gs):∀n,OpV P w n t (Cats Gs)
 | 0=>opV_zero
 | n+1=>opV_struct ht hc (hf n)
theorem gstrs:∀xs:List (List V),(∀c∈xs,GStr c)→∃a:List ByteArray,xs=a.map encS
 | [],_=>⟨[],rfl⟩
 | c::r,h=>by
  obtain⟨s,hs⟩:=h c List.mem_cons_self
  obtain⟨a,ha⟩:=gstrs r (fun c hc=>h c (List.mem_cons_of_mem _ hc))
  exact⟨s::a,by rw[hs,ha];rfl⟩
theorem opV_strs(w:World):∀n,OpV Tryz.prog w n 22 (GSl GStr):=opV_sliceA Tryz.underlying22 (of_decide_eq_true (by kernel_rfl)) (fun n=>opV_str Tryz.underlying9)
def GCtl:List V→Prop:=fun l=>∃c:Ctl,l=cCtl c
theorem opV_ctl(w:World):∀n,OpV Tryz.prog w n 41 GCtl:=fun n=>
 (opV_structA (w:=w) (Gs:=[GStr,GBool,GStr,GBool]) Tryz.underlying41 (by kernel_rfl) (fun n=>⟨rfl,opV_str Tryz.underlying9,by kernel_rfl,opV_bool Tryz.underlying4,by kernel_rfl,opV_str Tryz.underlying9,by kernel_rfl,opV_bool Tryz.underlying4,trivial⟩) n).imp fun l h=>by
  obtain⟨_,_,rfl,⟨a,rfl⟩,_,_,rfl,⟨b,rfl⟩,_,_,rfl,⟨c,rfl⟩,_,_,rfl,⟨d,rfl⟩,rfl⟩:=h
  exact⟨⟨a,b,c,d⟩,rfl⟩
def GAtt:List V→Prop:=fun l=>∃c:Att,l=cAtt c
theorem opV_att(w:World):∀n,OpV Tryz.prog w n 24 GAtt:=fun n=>
 (opV_structA (w:=w) (Gs:=[GStr,GSl GStr]) Tryz.underlying24 (by kernel_rfl) (fun n=>⟨rfl,opV_str Tryz.underlying9,by kernel_rfl,opV_strs w n,trivial⟩) n).imp fun l h=>by
  obtain⟨_,_,rfl,⟨a,rfl⟩,_,_,rfl,⟨xs,rfl,hxs⟩,rfl⟩:=h
  obtain⟨v,rfl⟩:=gstrs xs hxs
  exact⟨⟨a,v⟩,rfl⟩
def GChg:List V→Prop:=fun l=>∃c:Chg,l=cChg c
theorem opV_chg(w:World):∀n,OpV Tryz.prog w n 49 GChg:=fun n=>
 (opV_structA (w:=w) (Gs:=[GInt .i64,GAtt]) Tryz.underlying49 (by kernel_rfl) (fun n=>⟨rfl,opV_int Tryz.underlying3,by kernel_rfl,opV_att w n,trivial⟩) n).imp fun l h=>by
  obtain⟨_,_,rfl,⟨k,rfl,_⟩,_,_,rfl,⟨a,rfl⟩,rfl⟩:=h
  exact⟨⟨k,a⟩,rfl⟩
def GRes:List V→Prop:=fun l=>∃c:Res,l=cRes c
theorem opV_res(w:World):∀n,OpV Tryz.prog w n 51 GRes:=fun n=>
 (opV_structA (w:=w) (Gs:=[GInt .i64,GStr,GStr,GSl GStr]) Tryz.underlying51 (by kernel_rfl) (fun n=>⟨rfl,opV_int Tryz.underlying3,by kernel_rfl,opV_str Tryz.underlying9,by kernel_rfl,opV_str Tryz.underlying9,by kernel_rfl,opV_strs w n,trivial⟩) n).imp fun l h=>by
  obtain⟨_,_,rfl,⟨k,rfl,_⟩,_,_,rfl,⟨a,rfl⟩,_,_,rfl,⟨b,rfl⟩,_,_,rfl,⟨xs,rfl,hxs⟩,rfl⟩:=h
  obtain⟨v,rfl⟩:=gstrs xs hxs
  exact⟨⟨k,a,b,v⟩,rfl⟩
theorem agg_rep{w:World}{L:Lv}{l:List V}{cs:Array Value}(h:RepL w L l (Value.agg cs).cells.toList):Rep w L (.agg l) (.agg cs):=⟨cs,rfl,h⟩
end Go.Proofs.YtknelogmocedeaaGreatDoor.Pa
namespace Go.Proofs.YtknelogmocedeaaGreatDoor.Fi
open Go.RowKit Fl
set_option linter.unusedVariables false
def GFlt:List V→Prop:=fun l=>∃f:Flt,l=cF f
theorem gstrs:∀xs:List (List V),(∀c∈xs,GStr c)→∃a:List ByteArray,xs=a.map encS
 | [],_=>⟨[],rfl⟩
 | c::r,h=>by
  obtain⟨s,hs⟩:=h c List.mem_cons_self
  obtain⟨a,ha⟩:=gstrs r (fun c hc=>h c (List.mem_cons_of_mem _ hc))
  exact⟨s::a,by rw[hs,ha];rfl⟩
theorem gflts:∀xs:List (List V),(∀c∈xs,GFlt c)→∃a:List Flt,xs=cFs a
 | [],_=>⟨[],rfl⟩
 | c::r,h=>by
  obtain⟨s,hs⟩:=h c List.mem_cons_self
  obtain⟨a,ha⟩:=gflts r (fun c hc=>h c (List.mem_cons_of_mem _ hc))
  exact⟨s::a,by rw[hs,ha];rfl⟩
theorem opV_filter(w:World):∀n,OpV Tryz.prog w n 74 GFlt
 | 0=>fun H enc fuel hf cs y h=>by
  obtain rfl:fuel=0:=by omega
  simp[DataW.trod] at h
 | 1=>fun H enc fuel hf cs y h=>by
  obtain⟨xs,m,hm,_,hl,hx,hg⟩:=DataW.trod_struct Tryz.underlying74 h
  obtain rfl:m=0:=by omega
  have:=hg 0 _ rfl
  rw[List.getElem?_eq_getElem (by rw[hx];decide)] at this
  simp[DataW.trod] at this
 | n+2=>by
  have ih:=opV_filter w n
  have hs:=opV_struct (w:=w) (n:=n+1) (Gs:=[GInt .i64,GStr,GStr,GSl GStr,GStr,GSl GFlt]) Tryz.underlying74 (by kernel_rfl)
   ⟨rfl,opV_int Tryz.underlying3,by kernel_rfl,opV_str Tryz.underlying9,by kernel_rfl,opV_str Tryz.underlying9,by kernel_rfl,opV_slice Tryz.underlying22 (of_decide_eq_true (by kernel_rfl)) (opV_str Tryz.underlying9),by kernel_rfl,opV_str Tryz.underlying9,by kernel_rfl,opV_slice Tryz.underlying72 (of_decide_eq_true (by kernel_rfl)) ih,trivial⟩
  refine hs.imp fun l h=>?_
  obtain⟨_,_,rfl,⟨k,rfl,_⟩,_,_,rfl,⟨n1,rfl⟩,_,_,rfl,⟨v1,rfl⟩,_,_,rfl,⟨xs,rfl,hxs⟩,_,_,rfl,⟨f1,rfl⟩,_,_,rfl,⟨ys,rfl,hys⟩,rfl⟩:=h
  obtain⟨a,rfl⟩:=gstrs xs hxs
  obtain⟨m,rfl⟩:=gflts ys hys
  exact⟨.mk k n1 v1 a f1 m,rfl⟩
end Go.Proofs.YtknelogmocedeaaGreatDoor.Fi
namespace Go.Proofs.YtknelogmocedeaaGreatDoor.Ms
open Go.RowKit Pa
open Fi (encS cF cG GFlt)
open Fl (Flt)
set_option linter.unusedVariables false
theorem gatts:∀xs:List (List V),(∀c∈xs,GAtt c)→∃a:List Att,xs=a.map cAtt
 | [],_=>⟨[],rfl⟩
 | c::r,h=>by
  obtain⟨s,hs⟩:=h c List.mem_cons_self
  obtain⟨a,ha⟩:=gatts r (fun c hc=>h c (List.mem_cons_of_mem _ hc))
  exact⟨s::a,by rw[hs,ha];rfl⟩
theorem gchgs:∀xs:List (List V),(∀c∈xs,GChg c)→∃a:List Chg,xs=a.map cChg
 | [],_=>⟨[],rfl⟩
 | c::r,h=>by
  obtain⟨s,hs⟩:=h c List.mem_cons_self
  obtain⟨a,ha⟩:=gchgs r (fun c hc=>h c (List.mem_cons_of_mem _ hc))
  exact⟨s::a,by rw[hs,ha];rfl⟩
theorem gctls:∀xs:List (List V),(∀c∈xs,GCtl c)→∃a:List Ctl,xs=a.map cCtl
 | [],_=>⟨[],rfl⟩
 | c::r,h=>by
  obtain⟨s,hs⟩:=h c List.mem_cons_self
  obtain⟨a,ha⟩:=gctls r (fun c hc=>h c (List.mem_cons_of_mem _ hc))
  exact⟨s::a,by rw[hs,ha];rfl⟩
def GSch:List V→Prop:=fun l=>∃s:Sch,l=cSch s
theorem opV_sch(w:World):∀n,OpV Tryz.prog w n 76 GSch:=fun n=>
 (opV_structA (w:=w) (Gs:=[GInt .i64,GInt .i64,GInt .i64,GInt .i64,GBool,GFlt,GSl GStr]) Tryz.underlying76 (by kernel_rfl) (fun n=>⟨rfl,opV_int Tryz.underlying3,by kernel_rfl,opV_int Tryz.underlying3,by kernel_rfl,opV_int Tryz.underlying3,by kernel_rfl,opV_int Tryz.underlying3,by kernel_rfl,opV_bool Tryz.underlying4,by kernel_rfl,Fi.opV_filter w n,by kernel_rfl,opV_strs w n,trivial⟩) n).imp fun l h=>by
  obtain⟨_,_,rfl,⟨a,rfl,_⟩,_,_,rfl,⟨b,rfl,_⟩,_,_,rfl,⟨c,rfl,_⟩,_,_,rfl,⟨d,rfl,_⟩,_,_,rfl,⟨e,rfl⟩,_,_,rfl,⟨f,rfl⟩,_,_,rfl,⟨xs,rfl,hxs⟩,rfl⟩:=h
  obtain⟨v,rfl⟩:=gstrs xs hxs
  exact⟨⟨a,b,c,d,e,f,v⟩,by rw[Fi.cG_eq];rfl⟩
def GMov:List V→Prop:=fun l=>∃c:Mov,l=cMov c
theorem opV_mov(w:World):∀n,OpV Tryz.prog w n 78 GMov:=fun n=>
 (opV_structA (w:=w) (Gs:=[GStr,GBool,GStr,GBool]) Tryz.underlying78 (by kernel_rfl) (fun n=>⟨rfl,opV_str Tryz.underlying9,by kernel_rfl,opV_bool Tryz.underlying4,by kernel_rfl,opV_str Tryz.underlying9,by kernel_rfl,opV_bool Tryz.underlying4,trivial⟩) n).imp fun l h=>by
  obtain⟨_,_,rfl,⟨a,rfl⟩,_,_,rfl,⟨b,rfl⟩,_,_,rfl,⟨c,rfl⟩,_,_,rfl,⟨d,rfl⟩,rfl⟩:=h
  exact⟨⟨a,b,c,d⟩,rfl⟩
def GBnd:List V→Prop:=fun l=>∃c:Bnd,l=cBnd c
theorem opV_bnd(w:World):∀n,OpV Tryz.prog w n 80 GBnd:=fun n=>
 (opV_structA (w:=w) (Gs:=[GBool,GStr,GStr,GBool]) Tryz.underlying80 (by kernel_rfl) (fun n=>⟨rfl,opV_bool Tryz.underlying4,by kernel_rfl,opV_str Tryz.underlying9,by kernel_rfl,opV_str Tryz.underlying9,by kernel_rfl,opV_bool Tryz.underlying4,trivial⟩) n).imp fun l h=>by
  obtain⟨_,_,rfl,⟨a,rfl⟩,_,_,rfl,⟨b,rfl⟩,_,_,rfl,⟨c,rfl⟩,_,_,rfl,⟨d,rfl⟩,rfl⟩:=h
  exact⟨⟨a,b,c,d⟩,rfl⟩
def GXt:List V→Prop:=fun l=>∃c:Xt,l=cXt c
theorem opV_xt(w:World):∀n,OpV Tryz.prog w n 82 GXt:=fun n=>
 (opV_structA (w:=w) (Gs:=[GStr,GStr,GBool]) Tryz.underlying82 (by kernel_rfl) (fun n=>⟨rfl,opV_str Tryz.underlying9,by kernel_rfl,opV_str Tryz.underlying9,by kernel_rfl,opV_bool Tryz.underlying4,trivial⟩) n).imp fun l h=>by
  obtain⟨_,_,rfl,⟨a,rfl⟩,_,_,rfl,⟨b,rfl⟩,_,_,rfl,⟨c,rfl⟩,rfl⟩:=h
  exact⟨⟨a,b,c⟩,rfl⟩
def GMsg:List V→Prop:=fun l=>∃c:Msg,l=cMsg c
theorem opV_msg(w:World):∀n,OpV Tryz.prog w n 85 GMsg:=fun n=>
 (opV_structA (w:=w) (Gs:=[GInt .i64,GInt .i64,GStr,GSl GAtt,GSl GChg,GSch,GMov,GBnd,GXt,GRes,GSl GStr,GInt .i64,GSl GCtl]) Tryz.underlying85 (by kernel_rfl) (fun n=>⟨rfl,opV_int Tryz.underlying3,by kernel_rfl,opV_int Tryz.underlying3,by kernel_rfl,opV_str Tryz.underlying9,by kernel_rfl,opV_sliceA Tryz.underlying70 (of_decide_eq_true (by kernel_rfl)) (opV_att w) n,by kernel_rfl,opV_sliceA Tryz.underlying71 (of_decide_eq_true (by kernel_rfl)) (opV_chg w) n,by kernel_rfl,opV_sch w n,by kernel_rfl,opV_mov w n,by kernel_rfl,opV_bnd w n,by kernel_rfl,opV_xt w n,by kernel_rfl,opV_res w n,by kernel_rfl,opV_strs w n,by kernel_rfl,opV_int Tryz.underlying3,by kernel_rfl,opV_sliceA Tryz.underlying83 (of_decide_eq_true (by kernel_rfl)) (opV_ctl w) n,trivial⟩) n).imp fun l h=>by
  obtain⟨_,_,rfl,⟨a,rfl,_⟩,_,_,rfl,⟨b,rfl,_⟩,_,_,rfl,⟨c,rfl⟩,_,_,rfl,⟨xd,rfl,hxd⟩,_,_,rfl,⟨xe,rfl,hxe⟩,_,_,rfl,⟨f,rfl⟩,_,_,rfl,⟨g,rfl⟩,_,_,rfl,⟨h,rfl⟩,_,_,rfl,⟨i,rfl⟩,_,_,rfl,⟨j,rfl⟩,_,_,rfl,⟨xk,rfl,hxk⟩,_,_,rfl,⟨m,rfl,_⟩,_,_,rfl,⟨xn,rfl,hxn⟩,rfl⟩:=h
  obtain⟨d,rfl⟩:=gatts xd hxd
  obtain⟨e,rfl⟩:=gchgs xe hxe
  obtain⟨k,rfl⟩:=gstrs xk hxk
  obtain⟨n,rfl⟩:=gctls xn hxn
  exact⟨⟨a,b,c,d,e,f,g,h,i,j,k,m,n⟩,rfl⟩
end Go.Proofs.YtknelogmocedeaaGreatDoor.Ms
