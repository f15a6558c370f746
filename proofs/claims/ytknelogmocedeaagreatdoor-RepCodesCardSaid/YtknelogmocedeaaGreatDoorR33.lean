/- Several texts, one behind the other. rep, walked: responses of trees. Conditions: as in these contracts. Contracts of functions of Go's library, as the kit's shelf proves them of whatever program, at this program's numbers. Each states its own conditions. tlv, walked: texts one behind the other (strings.Join). Conditions: at most 10^9 bytes. tlv, plain: how long right trees' bytes are; what is wrong with what is read, and where; no error is none. No program. errors.As and errors.Is at an error type of the package Tlv: a struct of one cell, wrapped in another one of two (Go's text of both is walked). No conditions beyond the shape of memory that each theorem names. errors.Is at an error of the package Tlv that wraps a sentinel, against a sentinel: true just if it is that one (Go's text is walked). No conditions beyond the shape of memory that each theorem names. -/
import Derived.Test.YtknelogmocedeaaGreatDoorR32
import Derived.Shelf.Strings.OnBuilder
import Derived.Test.YtknelogmocedeaaGreatDoorProg
import Derived.Test.YtknelogmocedeaaGreatDoorR25
import Derived.Test.YtknelogmocedeaaGreatDoorR01
import Derived.WalkKit
import Derived.Below
import Derived.KernelRfl
import Derived.LaidEql
import Derived.Stop.Asserts
import Derived.RowKitTokens
import Derived.Outline
import Derived.Laws.Rows
import Derived.RangeFuncRecord
import Derived.Laws.Tables
namespace Go.Proofs.YtknelogmocedeaaGreatDoor.Rp
open Go.RowKit Go.Shelf Go.Lib Tl Pr Pa Ms
open Fl (bl bt' bl_bt bl_of size_bl Flt)
open Fi (one_arg encS cF cG all_take_succ all_bad)
set_option linter.unusedVariables false
variable (p : Nat → Addr)
abbrev bT(l:List Nd)(m:Msg)(s:Shp):List T:=.v (.sl (l.map cN))::bX m s
theorem last_some{l:List Nd}(h:l≠[]):∃(i:Nat) (hi:i < l.length),l.length=i+1∧l.getLast?=some l[i]∧l.dropLast=l.take i:=by
 have h1:0 < l.length:=List.length_pos_iff.2 h
 refine⟨l.length - 1,by omega,by omega,?_,List.dropLast_eq_take⟩
 rw[List.getLast?_eq_getElem?,List.getElem?_eq_getElem (by omega)]
set_option maxHeartbeats 4000000 in
theorem last_fn{X:En}(tag:Int)(l:List Nd)(hl:l.length≤100000000)(m:Msg)(s:Shp):FnM Tryz.prog X 149 [bT l m s] [.ptr 0 0,.v (.int .i64 tag)] (.tup [.v (.str (lastD tag l).1.1),.v (.bool (lastD tag l).1.2)]) [bT (lastD tag l).2 m s]:=by
 by_cases hne:l=[]
 ·subst hne
  refine fnM_prog tabOk mixed Tryz.f149 Tryz.func149 (by kernel_rfl) (by kernel_rfl) rfl rfl rfl rfl ?_
  conv=>whnf
  refine⟨rfl,-1,wrap64 (by decide) (by decide),?_⟩
  conv=>whnf
  refine⟨rfl,cmp_true (by decide) ?_⟩
  conv=>whnf
  (focus ((repeat' first|exact trivial|exact rfl|exact .inl rfl|exact .inr ⟨rfl,rfl⟩|refine And.intro ?_ ?_);done))
 ·obtain⟨i,hi,h1,h2,h3⟩:=last_some hne
  have hd:lastD tag l=if l[i].tag=tag∧tag≠0 then((l[i].data,true),l.take i) else((bt' [],false),l):=by
   unfold lastD
   rw[h2,h3]
  rw[hd]
  by_cases hx:l[i].tag=tag
  ·by_cases h0:tag=0
   ·rw[if_neg (fun e=>e.2 h0)]
    refine fnM_prog tabOk mixed Tryz.f149 Tryz.func149 (by kernel_rfl) (by kernel_rfl) rfl rfl rfl rfl ?_
    conv=>whnf
    refine⟨rfl,((i:Nat):Int),(by rw[show(((l.map cN).length:Nat):Int) - 1=((i:Nat):Int) by rw[List.length_map];omega];exact wrap64 (by omega) (by omega)),?_⟩
    conv=>whnf
    refine⟨rfl,cmp_false (by omega) ?_⟩
    conv=>whnf
    refine st_idxN (xs:=l) (i:=i) hi ?_
    conv=>whnf
    refine⟨rfl,cmp_false (fun e=>e hx) ?_⟩
    conv=>whnf
    refine⟨rfl,cmp_true h0 ?_⟩
    conv=>whnf
    (focus ((repeat' first|exact trivial|exact rfl|exact .inl rfl|exact .inr ⟨rfl,rfl⟩|refine And.intro ?_ ?_);done))
   ·rw[if_pos ⟨hx,h0⟩]
    refine fnM_prog tabOk mixed Tryz.f149 Tryz.func149 (by kernel_rfl) (by kernel_rfl) rfl rfl rfl rfl ?_
    conv=>whnf
    refine⟨rfl,((i:Nat):Int),(by rw[show(((l.map cN).length:Nat):Int) - 1=((i:Nat):Int) by rw[List.length_map];omega];exact wrap64 (by omega) (by omega)),?_⟩
    conv=>whnf
    refine⟨rfl,cmp_false (by omega) ?_⟩
    conv=>whnf
    refine st_idxN (xs:=l) (i:=i) hi ?_
    conv=>whnf
    refine⟨rfl,cmp_false (fun e=>e hx) ?_⟩
    conv=>whnf
    refine⟨rfl,cmp_false h0 ?_⟩
    conv=>whnf
    refine st_idxN (xs:=l) (i:=i) hi ?_
    conv=>whnf
    refine st_sub (z:=(l.take i).map cN) 0 i rfl rfl (by omega) (by rw[List.length_map];omega) (by intro c hc;obtain⟨y,_,rfl⟩:=List.mem_map.1 hc;exact cN_len y) (by rw[List.drop_zero,List.map_take]) ?_
    conv=>whnf
    (focus ((repeat' first|exact trivial|exact rfl|exact .inl rfl|exact .inr ⟨rfl,rfl⟩|refine And.intro ?_ ?_);done))
  ·rw[if_neg (fun e=>hx e.1)]
   refine fnM_prog tabOk mixed Tryz.f149 Tryz.func149 (by kernel_rfl) (by kernel_rfl) rfl rfl rfl rfl ?_
   conv=>whnf
   refine⟨rfl,((i:Nat):Int),(by rw[show(((l.map cN).length:Nat):Int) - 1=((i:Nat):Int) by rw[List.length_map];omega];exact wrap64 (by omega) (by omega)),?_⟩
   conv=>whnf
   refine⟨rfl,cmp_false (by omega) ?_⟩
   conv=>whnf
   refine st_idxN (xs:=l) (i:=i) hi ?_
   conv=>whnf
   refine⟨rfl,cmp_true hx ?_⟩
   conv=>whnf
   (focus ((repeat' first|exact trivial|exact rfl|exact .inl rfl|exact .inr ⟨rfl,rfl⟩|refine And.intro ?_ ?_);done))
def mA(op:Int)(s:Shp)(l:List Nd):Msg:={msgO op with
 dn:=match s.ent,l with | true,[x,_]=>x.data | _,_=>bt' []
 attrs:=match s.ent,l with | true,[_,y]=>y.kids.map fun n=>(readA n 0).getD att0 | _,_=>[]}
def mB(op:Int)(s:Shp)(l:List Nd):Msg:={mA op s l with refs:=if s.refs=true then l.map Nd.data else []}
def mC(op:Int)(s:Shp)(l:List Nd):Msg:={mB op s l with ext:=⟨bt' [],(lastD s.valT l).1.1,(lastD s.valT l).1.2⟩}
def mD(op:Int)(s:Shp)(l:List Nd):Msg:={mB op s l with ext:=⟨(lastD s.oidT (lastD s.valT l).2).1.1,(lastD s.valT l).1.1,(lastD s.valT l).1.2⟩}
def bI(l:List Nd)(m:Msg)(s:Shp):List T:=.v (.sl (l.map cN))::(((cMsg m++cShp s).set 3 .nils).set 32 .nils).map .v
def bA(l:List Nd)(m:Msg)(s:Shp):List T:=.v (.sl (l.map cN))::((cMsg m++cShp s).set 32 .nils).map .v
theorem mA_none{op:Int}{s:Shp}{l:List Nd}(h:s.ent=false∨l.length≠2):mA op s l=msgO op:=by
 unfold mA
 rcases h with h | h
 ·rw[h];rfl
 ·cases s.ent
  ·rfl
  ·rcases l with _ | ⟨x,_ | ⟨y,_ | ⟨z,r⟩⟩⟩
   ·rfl
   ·rfl
   ·exact absurd rfl h
   ·rfl
theorem kidLes_all{B:Nat}:∀{l:List Nd},(∀x∈l,kidLe B x)→kidLes B l
 | [],_=>trivial
 | x::r,h=>⟨h x (by simp),kidLes_all fun y hy=>h y (by simp[hy])⟩
theorem last_mem(tag:Int)(l:List Nd):(∀x∈(lastD tag l).2,x∈l)∧(lastD tag l).2.length≤l.length:=by
 unfold lastD
 split
 ·split
  ·exact⟨fun x hx=>(List.dropLast_sublist l).subset hx,by simp⟩
  ·exact⟨fun x hx=>hx,Nat.le_refl _⟩
 ·exact⟨fun x hx=>hx,Nat.le_refl _⟩
theorem readAttr_all(n:Nd)(hn:limN n):∃e:Int,Fn Tryz.prog (envX p) 25 [.v (.agg (cM n)),.v (.int .i64 0)] (.tup [.v (.agg (cAtt ((readA n 0).getD att0))),.v (.int .i64 e)]):=by
 have h:=ReadAttr_fn p n hn 0
 cases hr:readA n 0 <;> rw[hr] at h
 ·exact⟨100,h⟩
 ·exact⟨0,h⟩
theorem readResult_all(l:List Nd)(hl:l.length≤100000000∧kidLes 100000000 l)(hs:shortT l):∃e:Int,Fn Tryz.prog (envX p) 29 [.v (.sl (l.map cN))] (.tup [.v (.agg (cRes ((readR l).getD res0))),.v (.int .i64 e)]):=by
 have h:=ReadResult_fn p l hl hs
 cases hr:readR l <;> rw[hr] at h
 ·exact⟨100,h⟩
 ·exact⟨0,h⟩
set_option maxRecDepth 100000 in
set_option maxHeartbeats 16000000 in
theorem take_fn(op:Int)(s:Shp)(l:List Nd)(hl:l.length≤100000000∧kidLes 100000000 l)(hz:shortT l):FnM Tryz.prog (envX p) 113 [bI l (msgO op) s] [.ptr 0 0] (.tup []) [bT (lastD s.oidT (lastD s.valT l).2).2 (takeM op s l) s]:=by
 have hv:=last_mem s.valT l
 have ho:=last_mem s.oidT (lastD s.valT l).2
 have h1:=last_fn (X:=envX p) s.valT l hl.1 (mB op s l) s
 have h2:=last_fn (X:=envX p) s.oidT (lastD s.valT l).2 (by omega) (mC op s l) s
 obtain⟨e,h3⟩:=readResult_all p (lastD s.oidT (lastD s.valT l).2).2 ⟨by omega,kidLes_all fun x hx=>kidLes_mem hl.2 x (hv.1 x (ho.1 x hx))⟩ (fun x hx=>hz x (hv.1 x (ho.1 x hx)))
 refine fnM_cut tabOk mixed Tryz.f113 Tryz.func113 (by kernel_rfl) (by kernel_rfl) rfl rfl rfl rfl ?_
 refine .seq [] ⟨165,[(0,.ptr 165 0)],[(165,bA l (mA op s l) s)],[]⟩ ?_ ?_
 ·cases hq:s.ent
  ·rw[mA_none (.inl hq)]
   conv=>whnf
   rw[hq]
   conv=>whnf
   (focus ((repeat' first|exact trivial|exact rfl|exact .inl rfl|exact .inr ⟨rfl,rfl⟩|refine And.intro ?_ ?_);done))
  ·by_cases h2:l.length=2
   ·obtain⟨x,y,rfl⟩:∃x y,l=[x,y]:=by
     rcases l with _ | ⟨x,_ | ⟨y,_ | ⟨z,r⟩⟩⟩
     ·cases h2
     ·cases h2
     ·exact⟨x,y,rfl⟩
     ·simp at h2
    have hy:=(kidLe_at hl.2.2.1).2
    conv=>whnf
    rw[hq]
    conv=>whnf
    refine⟨rfl,cmp_true (by simp) ?_⟩
    conv=>whnf
    refine st_idxN (xs:=[x,y]) (i:=0) (by simp) ?_
    conv=>whnf
    refine st_idxN (xs:=[x,y]) (i:=1) (by simp) ?_
    conv=>whnf
    refine⟨Nat,fun i=>⟨165,[(0,.ptr 165 0),(43,.v (.sl (y.kids.map cN))),(44,.v (.int .i64 ((y.kids.map cN).length:Nat))),(45,.v (.int .i64 (i:Nat)))],[(165,(bA [x,y] {msgO op with dn:=x.data} s).set 4 (.own 63 24 ((y.kids.take i).map fun n=>cAtt ((readA n 0).getD att0))))],[(63,some 24)]⟩,fun i=>i≤y.kids.length,fun i=>y.kids.length - i,⟨0,[(63,none)],Nat.zero_le _,?_⟩,fun i hi=>?_⟩
    ·(focus ((repeat' first|exact trivial|exact rfl|exact .inl rfl|exact .inr ⟨rfl,rfl⟩|refine And.intro ?_ ?_);done))
    conv=>whnf
    refine⟨rfl,cmp_split (fun h=>?_) (fun h=>?_)⟩ <;> rw[List.length_map] at h
    ·have hil:i < y.kids.length:=by omega
     obtain⟨e,hA⟩:=readAttr_all p y.kids[i] (kidLes_mem hy.2 _ (List.getElem_mem hil))
     conv=>whnf
     refine st_idxN hil ?_
     conv=>whnf
     (refine st_call hA ?_ rfl rfl ?_;(focus ((repeat' first|exact trivial|exact rfl|exact .inl rfl|exact .inr ⟨rfl,rfl⟩|refine And.intro ?_ ?_);done));conv=>whnf)
     refine⟨none,by kernel_rfl,?_⟩;conv=>whnf
     refine st_app (by simp;omega) (by intro c hc;simp at hc;rw[hc];rfl) (show((y.kids.take i).map fun n=>cAtt ((readA n 0).getD att0))++[cAtt ((readA y.kids[i] 0).getD att0)]=((y.kids.take (i+1)).map fun n=>cAtt ((readA n 0).getD att0)) from map_take_succ (enc:=fun n=>cAtt ((readA n 0).getD att0)) hil) ?_
     conv=>whnf
     refine⟨rfl,st_succ (by omega) ?_⟩
     conv=>whnf
     refine⟨i+1,[(63,some 63)],hil,by dsimp only;omega,?_⟩
     (focus ((repeat' first|exact trivial|exact rfl|exact .inl rfl|exact .inr ⟨rfl,rfl⟩|refine And.intro ?_ ?_);done))
    ·have hie:y.kids.take i=y.kids:=List.take_of_length_le (by omega)
     conv=>whnf
     rw[hie,show mA op s [x,y]={msgO op with dn:=x.data,attrs:=y.kids.map fun n=>(readA n 0).getD att0} from by unfold mA;rw[hq],show(y.kids.map fun n=>cAtt ((readA n 0).getD att0))=(y.kids.map fun n=>(readA n 0).getD att0).map cAtt from by rw[List.map_map];rfl]
     (focus ((repeat' first|exact trivial|exact rfl|exact .inl rfl|exact .inr ⟨rfl,rfl⟩|refine And.intro ?_ ?_);done))
   ·rw[mA_none (.inr h2)]
    conv=>whnf
    rw[hq]
    conv=>whnf
    refine⟨rfl,cmp_false (by rw[List.length_map];omega) ?_⟩
    conv=>whnf
    (focus ((repeat' first|exact trivial|exact rfl|exact .inl rfl|exact .inr ⟨rfl,rfl⟩|refine And.intro ?_ ?_);done))
 refine .seq [] ⟨165,[(0,.ptr 165 0)],[(165,bT l (mB op s l) s)],[]⟩ ?_ ?_
 ·have hb:∀r,s.refs=r→mB op s l={mA op s l with refs:=if r=true then l.map Nd.data else []}:=fun r h=>by unfold mB;rw[h]
  cases hq:s.refs
  ·rw[hb _ hq,if_neg (by decide)]
   conv=>whnf
   rw[hq]
   conv=>whnf
   (focus ((repeat' first|exact trivial|exact rfl|exact .inl rfl|exact .inr ⟨rfl,rfl⟩|refine And.intro ?_ ?_);done))
  ·rw[hb _ hq,if_pos rfl]
   generalize mA op s l=m
   conv=>whnf
   rw[hq]
   conv=>whnf
   refine⟨Nat,fun i=>⟨165,[(0,.ptr 165 0),(79,.v (.sl (l.map cN))),(80,.v (.int .i64 ((l.map cN).length:Nat))),(81,.v (.int .i64 (i:Nat)))],[(165,(bA l m s).set 33 (.own 95 9 ((l.take i).map fun n=>encS n.data)))],[(95,some 9)]⟩,fun i=>i≤l.length,fun i=>l.length - i,⟨0,[(95,none)],Nat.zero_le _,?_⟩,fun i hi=>?_⟩
   ·(focus ((repeat' first|exact trivial|exact rfl|exact .inl rfl|exact .inr ⟨rfl,rfl⟩|refine And.intro ?_ ?_);done))
   conv=>whnf
   refine⟨rfl,cmp_split (fun h=>?_) (fun h=>?_)⟩ <;> rw[List.length_map] at h
   ·have hil:i < l.length:=by omega
    conv=>whnf
    refine st_idxN hil ?_
    conv=>whnf
    refine⟨none,by kernel_rfl,?_⟩;conv=>whnf
    refine st_app (by simp;omega) (by intro c hc;simp at hc;rw[hc];rfl) (show((l.take i).map fun n=>encS n.data)++[encS l[i].data]=((l.take (i+1)).map fun n=>encS n.data) from map_take_succ (enc:=fun n=>encS n.data) hil) ?_
    conv=>whnf
    refine⟨rfl,st_succ (by omega) ?_⟩
    conv=>whnf
    refine⟨i+1,[(95,some 95)],hil,by dsimp only;omega,?_⟩
    (focus ((repeat' first|exact trivial|exact rfl|exact .inl rfl|exact .inr ⟨rfl,rfl⟩|refine And.intro ?_ ?_);done))
   ·have hie:l.take i=l:=List.take_of_length_le (by omega)
    conv=>whnf
    rw[hie,show(l.map fun n=>encS n.data)=(l.map Nd.data).map encS from by rw[List.map_map];rfl]
    (focus ((repeat' first|exact trivial|exact rfl|exact .inl rfl|exact .inr ⟨rfl,rfl⟩|refine And.intro ?_ ?_);done))
 refine .seq [] ⟨165,[(0,.ptr 165 0)],[(165,bT (lastD s.valT l).2 (mC op s l) s)],[]⟩ ?_ ?_
 ·conv=>whnf
  refine⟨none,by kernel_rfl,?_⟩;conv=>whnf
  (refine st_callM [165] (h1) rfl ?_ ?_ rfl ?_;(focus ((repeat' first|exact trivial|exact rfl|exact .inl rfl|exact .inr ⟨rfl,rfl⟩|refine And.intro ?_ ?_);done));(focus ((repeat' first|exact trivial|exact rfl|exact .inl rfl|exact .inr ⟨rfl,rfl⟩|refine And.intro ?_ ?_);done));conv=>whnf)
  (focus ((repeat' first|exact trivial|exact rfl|exact .inl rfl|exact .inr ⟨rfl,rfl⟩|refine And.intro ?_ ?_);done))
 refine .seq [] ⟨165,[(0,.ptr 165 0)],[(165,bT (lastD s.oidT (lastD s.valT l).2).2 (mD op s l) s)],[]⟩ ?_ ?_
 ·conv=>whnf
  refine⟨none,by kernel_rfl,?_⟩;conv=>whnf
  (refine st_callM [165] (h2) rfl ?_ ?_ rfl ?_;(focus ((repeat' first|exact trivial|exact rfl|exact .inl rfl|exact .inr ⟨rfl,rfl⟩|refine And.intro ?_ ?_);done));(focus ((repeat' first|exact trivial|exact rfl|exact .inl rfl|exact .inr ⟨rfl,rfl⟩|refine And.intro ?_ ?_);done));conv=>whnf)
  (focus ((repeat' first|exact trivial|exact rfl|exact .inl rfl|exact .inr ⟨rfl,rfl⟩|refine And.intro ?_ ?_);done))
 refine .base ?_
 have ht:∀r,s.res=r→takeM op s l={mD op s l with result:=if r=true then(readR (lastD s.oidT (lastD s.valT l).2).2).getD res0 else res0}:=fun r h=>by unfold takeM;rw[h];rfl
 cases hq:s.res
 ·rw[show takeM op s l=mD op s l from(ht _ hq).trans rfl]
  generalize mD op s l=m
  conv=>whnf
  rw[hq]
  conv=>whnf
  (focus ((repeat' first|exact trivial|exact rfl|exact .inl rfl|exact .inr ⟨rfl,rfl⟩|refine And.intro ?_ ?_);done))
 ·rw[ht _ hq,if_pos rfl]
  generalize mD op s l=m
  conv=>whnf
  rw[hq]
  conv=>whnf
  (refine st_call h3 ?_ rfl rfl ?_;(focus ((repeat' first|exact trivial|exact rfl|exact .inl rfl|exact .inr ⟨rfl,rfl⟩|refine And.intro ?_ ?_);done));conv=>whnf)
  (focus ((repeat' first|exact trivial|exact rfl|exact .inl rfl|exact .inr ⟨rfl,rfl⟩|refine And.intro ?_ ?_);done))
end Go.Proofs.YtknelogmocedeaaGreatDoor.Rp
namespace Go.Proofs.YtknelogmocedeaaGreatDoor
open Go.Shelf
def Shelf.Laysn156_ren:Go.Shelf.Ren:=⟨fun | 156=>152 | 165=>179 | 166=>180 | 169=>181 | 240=>192 | 241=>193 | 276=>201 | 277=>202 | n=>n,fun | 0=>0 | 3=>3 | 4=>4 | 5=>5 | 9=>9 | 20=>20 | 31=>22 | 37=>44 | 70=>300 | 72=>302 | 75=>98 | 76=>289 | 80=>304 | 127=>320 | 164=>206 | n=>n,fun | n=>n⟩
theorem Shelf.Laysn156:Go.Proofs.Lays.n156 Tryz.prog Shelf.Laysn156_ren:={
 mixed:=by kernel_rfl
 f156:=Tryz.func152.trans (congrArg some (by kernel_rfl))
 f165:=Tryz.func179.trans (congrArg some (by kernel_rfl))
 f166:=Tryz.func180.trans (congrArg some (by kernel_rfl))
 f169:=Tryz.func181.trans (congrArg some (by kernel_rfl))
 f240:=Tryz.func192.trans (congrArg some (by kernel_rfl))
 f241:=Tryz.func193.trans (congrArg some (by kernel_rfl))
 f276:=Tryz.func201.trans (congrArg some (by kernel_rfl))
 f277:=Tryz.func202.trans (congrArg some (by kernel_rfl))
 t0:=Tryz.underlying0
 a0:=Tryz.isAgg0
 z0:=Tryz.sizeOf0
 v0:=Tryz.zeroValue0
 t3:=Tryz.underlying3
 a3:=Tryz.isAgg3
 z3:=Tryz.sizeOf3
 v3:=Tryz.zeroValue3
 t4:=Tryz.underlying4
 a4:=Tryz.isAgg4
 z4:=Tryz.sizeOf4
 v4:=Tryz.zeroValue4
 t9:=Tryz.underlying9
 a9:=Tryz.isAgg9
 z9:=Tryz.sizeOf9
 v9:=Tryz.zeroValue9
 t20:=Tryz.underlying20
 a20:=Tryz.isAgg20
 z20:=Tryz.sizeOf20
 v20:=Tryz.zeroValue20
 t31:=Tryz.underlying22
 a31:=Tryz.isAgg22
 z31:=Tryz.sizeOf22
 v31:=Tryz.zeroValue22
 t37:=Tryz.underlying44
 a37:=Tryz.isAgg44
 z37:=Tryz.sizeOf44
 v37:=Tryz.zeroValue44
 t70:=Tryz.underlying300
 a70:=Tryz.isAgg300
 z70:=Tryz.sizeOf300
 v70:=Tryz.zeroValue300
 t72:=Tryz.underlying302
 a72:=Tryz.isAgg302
 z72:=Tryz.sizeOf302
 v72:=Tryz.zeroValue302
 t75:=Tryz.underlying98
 a75:=Tryz.isAgg98
 z75:=Tryz.sizeOf98
 v75:=Tryz.zeroValue98
 t76:=Tryz.underlying289
 a76:=Tryz.isAgg289
 z76:=Tryz.sizeOf289
 v76:=Tryz.zeroValue289
 t127:=Tryz.underlying320
 a127:=Tryz.isAgg320
 z127:=Tryz.sizeOf320
 v127:=Tryz.zeroValue320
 t164:=Tryz.underlying206
 a164:=Tryz.isAgg206
 z164:=Tryz.sizeOf206
 v164:=Tryz.zeroValue206}
theorem Shelf.Builder_Extra_Laysn156:Builder.Extra Tryz.prog Shelf.Laysn156_ren:={
 sizeBuilder:=by kernel_rfl
 liesBuilder:=by kernel_rfl
 t5:=Tryz.underlying5
 a5:=Tryz.isAgg5
 z5:=Tryz.sizeOf5
 v5:=Tryz.zeroValue5
 infoByte:=by kernel_rfl
 cellsByte:=by kernel_rfl
 sizeByte:=by kernel_rfl
 neB5:=by decide}
open Go.RowKit in
theorem Shelf.strings_Join_none (a:Option Addr)(c:Nat)(sep:ByteArray)(w:World):
  Calls Tryz.prog 152 #[.slice a 0 c,.string sep] w fun e w'=>e=.returned (.string ⟨#[]⟩)∧w'=w:=Any.strings_Join_none Shelf.Laysn156 Shelf.Builder_Extra_Laysn156 a c sep w
open Go.RowKit in
theorem Shelf.strings_Join (bk o c:Nat)(xs:List ByteArray)(sep:ByteArray)(w:World)(hcells:∀(j:Nat) x,xs[j]? =some x→w.cell? ⟨bk,o+j,none⟩=some (.string x))(hbk:bk < w.heap.size)(hN:xs.length≤140737488355328)(hcap:xs.length≤c)(hlen:(Lib.join (xs.map (·.data.toList)) sep.data.toList).length≤140737488355328):
  Calls Tryz.prog 152 #[.slice (some ⟨bk,o,none⟩) xs.length c,.string sep] w fun e w'=>e=.returned (.string ⟨(Lib.join (xs.map (·.data.toList)) sep.data.toList).toArray⟩)∧Below w.heap.size w w':=Any.strings_Join Shelf.Laysn156 Shelf.Builder_Extra_Laysn156 bk o c xs sep w hcells hbk hN hcap hlen
end Go.Proofs.YtknelogmocedeaaGreatDoor
namespace Go.Proofs.YtknelogmocedeaaGreatDoor.Tl
open Go.RowKit Go.Shelf Go.Lib
open Fl (bl bt' bl_bt bl_of size_bl)
open Fi (encS one_arg two_args)
set_option linter.unusedVariables false
theorem repl_one{w:World}{L:Lv}{x:V}{cs:List Value}(h:RepL w L [x] cs):∃u,cs=[u]∧Rep w L x u:=by
 obtain⟨u,us,rfl,_,h1,h2⟩:=h
 rw[show us=[] from h2]
 exact⟨u,rfl,h1⟩
def catL(xs:List ByteArray):List UInt8:=(xs.map bl).flatten
variable (p : Nat → Addr)
theorem join_cat(xs:List ByteArray):Lib.join (xs.map (·.data.toList)) []=catL xs:=by
 unfold catL
 show([]:List UInt8).intercalate (xs.map bl)=_
 generalize xs.map bl=l
 induction l with
 | nil=>rfl
 | cons x r ih=>
  cases r with
  | nil=>simp[List.intercalate,List.intersperse]
  | cons y t=>
   simp only[List.intercalate,List.intersperse,List.flatten_cons,List.nil_append] at ih ⊢
   rw[ih]
theorem join_fn(xs:List ByteArray)(hn:xs.length≤1000000000)(hl:(catL xs).length≤1000000000):Fn Tryz.prog (envX p) 152 [.v (.sl (xs.map encS)),.v (.str (bt' []))] (.v (.str (bt' (catL xs)))):=
 Fn.of_plain (enter_of (by kernel_rfl)) rfl fun w L vs hE ha=>by
  obtain⟨v,v',rfl,h,h'⟩:=two_args ha
  rw[show v'=.string (bt' []) from h']
  have hv:VSlice 1 VStr w (fun _=>True) [v] xs:=rep_view (k:=1) (R:=VStr) (enc:=encS) (by omega) (fun _=>rfl) (fun x cs h=>by
   obtain⟨u,rfl,h1⟩:=repl_one h
   rw[show u=.string x from h1]
   rfl) h
  obtain⟨A,k,rfl,hk,hx⟩:=hv.open
  by_cases h0:xs=[]
  ·subst h0
   refine(Shelf.strings_Join_none A k (bt' []) w).mono ?_
   rintro e w' ⟨rfl,rfl⟩
   exact⟨rfl,Below.refl _ _⟩
  ·obtain⟨b,o,rfl,_,hb,hc⟩:=hx h0
   refine(Shelf.strings_Join b o k xs (bt' []) w (fun j x hj=>by
    obtain⟨ws,e1,e2⟩:=hc j x hj
    have e1':ws=[.string x]:=e1
    subst e1'
    have:=e2 0 _ rfl
    simpa using this) hb (by omega) hk (by rw[show(bt' []).data.toList=[] from rfl,join_cat];omega)).mono ?_
   rintro e w' ⟨rfl,hb⟩
   refine⟨?_,hb⟩
   rw[show(bt' []).data.toList=[] from rfl,join_cat]
   rfl
end Go.Proofs.YtknelogmocedeaaGreatDoor.Tl
namespace Go.Proofs.YtknelogmocedeaaGreatDoor.Tl
open Go.Lib
open Fl (bl bt' bl_bt bl_of size_bl)
set_option linter.unusedVariables false
mutual
theorem lay_le:∀(d:Nat) (n:Nd),(preN d n).all okN=true→(layN n).length≤4005*(preN d n).length
 | d,.mk t x k,ha=>by
  rw[preN,List.all_cons,Bool.and_eq_true] at ha
  obtain⟨h0,hk⟩:=ha
  unfold okN at h0
  simp only[Bool.and_eq_true,decide_eq_true_eq] at h0
  have h1:x.size≤4000:=h0.2.2
  have h2:=lays_le (d+1) k hk
  have h3:=(szL_len (layNs k++bl x).length).2
  rw[layN,preN,List.length_cons,List.length_cons,List.length_append]
  generalize szL (layNs k++bl x).length=z at*
  rw[List.length_append,size_bl]
  omega
theorem lays_le:∀(d:Nat) (l:List Nd),(preNs d l).all okN=true→(layNs l).length≤4005*(preNs d l).length
 | _,[],_=>Nat.zero_le _
 | d,x::r,ha=>by
  rw[preNs,List.all_append,Bool.and_eq_true] at ha
  have h1:=lay_le d x ha.1
  have h2:=lays_le d r ha.2
  rw[layNs,preNs,List.length_append,List.length_append]
  omega
end
theorem lay_pos(n:Nd):1≤(layN n).length:=by obtain⟨b,l,e⟩:=layN_ne n;rw[e];simp
theorem len_lays:∀l:List Nd,l.length≤(layNs l).length
 | []=>Nat.zero_le _
 | x::r=>by
  rw[layNs,List.length_append,List.length_cons]
  have h1:=lay_pos x
  have h2:=len_lays r
  omega
def teC:TE→Nat
 | .short=>10
 | .tag=>20
 | .node=>21
 | .len e=>e
variable {rd : Nat → List UInt8 → Except TE (Nd × List UInt8 × Nat)}
end Go.Proofs.YtknelogmocedeaaGreatDoor.Tl
namespace Go.Proofs.YtknelogmocedeaaGreatDoor.AsTlv
open Go.RowKit Go.Extern.Stop Go.Stop Go.Extern
theorem rlm(z:Sem Value)(f:TypeId→Addr→Nat→Nat→Sem Value)(v:Value):
  ReflectliteValue.method z f #[v]=(do match ←ReflectliteValue.parts v with | none=>z | some (t,a,fl)=>f t a fl (fl % 32)):=rfl
theorem rls(v x:Value):ReflectliteValue.set #[v,x]=(do
  let (some (dst,a,fl),some (src,b,_)):=(←ReflectliteValue.parts v,←ReflectliteValue.parts x)
   | unsupported (.noEntry "extern/(internal/reflectlite.Value).Set.zeroValue")
  if fl / ReflectliteValue.flagAddr % 2==0 then unsupported (.noEntry "extern/(internal/reflectlite.Value).Set.unaddressable")
  let val ←loadVar src b
  if ←Rtype.directlyAssignable dst src then storeVar dst a val
  else if ←Rtype.implements dst src then
   if(←Rtype.kind src)==20 then
    match val with
    | .nilIface=>unsupported (.noEntry "extern/reflectlite: a nil value of one interface type handed on as a value of another")
    | _=>storeVar dst a val
   else storeVar dst a (.iface src val)
  else panicString ("reflectlite.Set: value of type " ++(←Rtype.spelt src)++ " is not assignable to type " ++(←Rtype.spelt dst))
  pure (.tuple #[])):=rfl
theorem below_setRow{B g:Nat}{w w':World}(h:Below B w w')(hB:B≤g)(cs:Array Value):Below B w (w'.setRow g cs):=
 h.trans ⟨rfl,rfl,rfl,by simp[World.setRow],fun k hk=>by simp only[World.setRow,Array.getElem?_modify];rw[if_neg (by omega)]⟩
theorem valueOfP(t:Addr)(w:World):(ReflectliteValue.unpack (.iface 203 (.pointer (some t)))).run Tryz.prog w
  =.ok (.agg #[.pointer (some ⟨19,203,none⟩),.pointer (some ⟨w.heap.size,0,none⟩),.int .u64 150]) (w.alloc (.cells #[.pointer (some t)] 203)):=by kernel_rfl
theorem typeP(a:Addr)(w:World):(ReflectliteValue.methodAny (ReflectliteValue.valueError "reflectlite.Value.Type" 0) (fun t _ _ _=>ReflectliteType.toType t) #[.agg #[.pointer (some ⟨19,203,none⟩),.pointer (some a),.int .u64 150]]).run Tryz.prog w
  =.ok (.iface 263 (.agg #[.pointer (some ⟨19,203,none⟩)])) w:=by kernel_rfl
theorem elemP(w:World):(ReflectliteType.method ReflectliteType.elem #[.agg #[.pointer (some ⟨19,203,none⟩)]]).run Tryz.prog w=.ok (.iface 263 (.agg #[.pointer (some ⟨19,202,none⟩)])) w:=by kernel_rfl
theorem kindP(w:World):((ReflectliteType.abiMethod fun t=>(fun a:Nat=>Value.int IntKind.u8 (a:Int)) <$> Rtype.kind t) #[.pointer (some ⟨19,203,none⟩)]).run Tryz.prog w=.ok (.int .u8 22) w:=by kernel_rfl
theorem kindW(w:World):((ReflectliteType.abiMethod fun t=>(fun a:Nat=>Value.int IntKind.u8 (a:Int)) <$> Rtype.kind t) #[.pointer (some ⟨19,202,none⟩)]).run Tryz.prog w=.ok (.int .u8 25) w:=by kernel_rfl
theorem implementsW(w:World):(ReflectliteType.relation "Implements" ReflectliteType.implements_ #[.agg #[.pointer (some ⟨19,202,none⟩)],.iface 263 (.agg #[.pointer (some ⟨19,98,none⟩)])]).run Tryz.prog w=.ok (.bool true) w:=by kernel_rfl
theorem typeOfW(v:Value)(w:World):(ReflectliteType.typeOf #[.iface 202 v]).run Tryz.prog w=.ok (.iface 263 (.agg #[.pointer (some ⟨19,202,none⟩)])) w:=by kernel_rfl
theorem assignW(w:World):(ReflectliteType.relation "AssignableTo" ReflectliteType.assignableTo #[.agg #[.pointer (some ⟨19,202,none⟩)],.iface 263 (.agg #[.pointer (some ⟨19,202,none⟩)])]).run Tryz.prog w=.ok (.bool true) w:=by kernel_rfl
theorem typeOfV(v:Value)(w:World):(ReflectliteType.typeOf #[.iface 143 v]).run Tryz.prog w=.ok (.iface 263 (.agg #[.pointer (some ⟨19,143,none⟩)])) w:=by kernel_rfl
theorem typeOfES(v:Value)(w:World):(ReflectliteType.typeOf #[.iface 348 v]).run Tryz.prog w=.ok (.iface 263 (.agg #[.pointer (some ⟨19,348,none⟩)])) w:=by kernel_rfl
theorem assignV(w:World):(ReflectliteType.relation "AssignableTo" ReflectliteType.assignableTo #[.agg #[.pointer (some ⟨19,143,none⟩)],.iface 263 (.agg #[.pointer (some ⟨19,202,none⟩)])]).run Tryz.prog w=.ok (.bool false) w:=by kernel_rfl
theorem assignES(w:World):(ReflectliteType.relation "AssignableTo" ReflectliteType.assignableTo #[.agg #[.pointer (some ⟨19,348,none⟩)],.iface 263 (.agg #[.pointer (some ⟨19,202,none⟩)])]).run Tryz.prog w=.ok (.bool false) w:=by kernel_rfl
theorem noAsV(v:Value)(xT:TypeId)(w:World):(Instr.typeAssert (.iface 143 v) xT 267 true).run Tryz.prog w=.ok (.tuple #[.nilIface,.bool false]) w:=run_typeAssert_lacksB Tryz.underlying267 (by kernel_rfl) (by kernel_rfl) v xT w
theorem noAsES(v:Value)(xT:TypeId)(w:World):(Instr.typeAssert (.iface 348 v) xT 267 true).run Tryz.prog w=.ok (.tuple #[.nilIface,.bool false]) w:=run_typeAssert_lacksB Tryz.underlying267 (by kernel_rfl) (by kernel_rfl) v xT w
theorem noUnwrapE(v:Value)(xT:TypeId)(w:World):(Instr.typeAssert (.iface 348 v) xT 270 true).run Tryz.prog w=.ok (.tuple #[.nilIface,.bool false]) w:=run_typeAssert_lacksB Tryz.underlying270 (by kernel_rfl) (by kernel_rfl) v xT w
theorem noUnwrapsE(v:Value)(xT:TypeId)(w:World):(Instr.typeAssert (.iface 348 v) xT 271 true).run Tryz.prog w=.ok (.tuple #[.nilIface,.bool false]) w:=run_typeAssert_lacksB Tryz.underlying271 (by kernel_rfl) (by kernel_rfl) v xT w
theorem hasUnwrapV(v:Value)(xT:TypeId)(w:World):(Instr.typeAssert (.iface 143 v) xT 270 true).run Tryz.prog w=.ok (.tuple #[.iface 143 v,.bool true]) w:=run_typeAssert_hasB Tryz.underlying270 (by kernel_rfl) v xT w
theorem methodUnwrap(v:Value)(w:World):(Go.method 477 143 v "Unwrap").run Tryz.prog w=.ok (231,v) w:=by kernel_rfl
theorem valueOfW(x:Value)(w:World):(ReflectliteValue.unpack (.iface 202 (.agg #[x]))).run Tryz.prog w
  =.ok (.agg #[.pointer (some ⟨19,202,none⟩),.pointer (some ⟨w.heap.size,0,none⟩),.int .u64 153]) (w.alloc (.cells #[x] 202)):=by kernel_rfl
theorem methodKind(h:Value)(w:World):(Go.method 477 263 (.agg #[h]) "Kind").run Tryz.prog w=.ok (227,h) w:=by kernel_rfl
theorem methodElem(h:Value)(w:World):(Go.method 477 263 (.agg #[h]) "Elem").run Tryz.prog w=.ok (247,.agg #[h]) w:=by kernel_rfl
theorem methodImplements(h:Value)(w:World):(Go.method 477 263 (.agg #[h]) "Implements").run Tryz.prog w=.ok (248,.agg #[h]) w:=by kernel_rfl
theorem methodAssignableTo(h:Value)(w:World):(Go.method 477 263 (.agg #[h]) "AssignableTo").run Tryz.prog w=.ok (245,.agg #[h]) w:=by kernel_rfl
theorem parts(a:Addr)(w:World):(ReflectliteValue.parts (.agg #[.pointer (some ⟨19,203,none⟩),.pointer (some a),.int .u64 150])).run Tryz.prog w=.ok (some (203,a,150)) w:=by kernel_rfl
theorem partsWa(a:Addr)(w:World):(ReflectliteValue.parts (.agg #[.pointer (some ⟨19,202,none⟩),.pointer (some a),.int .u64 409])).run Tryz.prog w=.ok (some (202,a,409)) w:=by kernel_rfl
theorem partsW(a:Addr)(w:World):(ReflectliteValue.parts (.agg #[.pointer (some ⟨19,202,none⟩),.pointer (some a),.int .u64 153])).run Tryz.prog w=.ok (some (202,a,153)) w:=by kernel_rfl
theorem elemOf(w:World):(Rtype.elem? 203).run Tryz.prog w=.ok (some 202) w:=by kernel_rfl
theorem mkW(p:Addr)(w:World):(ReflectliteValue.mk 202 p ReflectliteValue.flagAddr).run Tryz.prog w=.ok (.agg #[.pointer (some ⟨19,202,none⟩),.pointer (some p),.int .u64 409]) w:=by kernel_rfl
theorem isNil(a p:Addr)(W:World)(ha:W.cell? a=some (.pointer (some p))):
  (ReflectliteValue.method (ReflectliteValue.valueError "reflectlite.Value.IsNil" 0) ReflectliteValue.isNil #[.agg #[.pointer (some ⟨19,203,none⟩),.pointer (some a),.int .u64 150]]).run Tryz.prog W=.ok (.bool false) W:=by
 rw[rlm]
 simp only[Sem.run_bind,parts,Result.andThen]
 simp[ReflectliteValue.isNil,loadVar,isAgg,underlying,Tryz.underlying203,ha,Result.andThen]
theorem elemV(a p:Addr)(W:World)(ha:W.cell? a=some (.pointer (some p))):
  (ReflectliteValue.method (ReflectliteValue.valueError "reflectlite.Value.Elem" 0) ReflectliteValue.elem #[.agg #[.pointer (some ⟨19,203,none⟩),.pointer (some a),.int .u64 150]]).run Tryz.prog W
   =.ok (.agg #[.pointer (some ⟨19,202,none⟩),.pointer (some p),.int .u64 409]) W:=by
 rw[rlm]
 simp only[Sem.run_bind,parts,Result.andThen]
 simp[ReflectliteValue.elem,loadVar,isAgg,underlying,Tryz.underlying203,ha,Result.andThen,elemOf,mkW]
theorem direct(w:World):(Rtype.directlyAssignable 202 202).run Tryz.prog w=.ok true w:=by kernel_rfl
theorem setW(g b:Nat)(old0 x:Value)(fr:Nat×Nat)(W:World)(hx:x.oneCell'=true)(hb:W.heap[b]? =some (.cells #[x] 202 fr))(ht:W.heap[g]? =some (.cells #[old0] 202 (0,0))):
  (ReflectliteValue.set #[.agg #[.pointer (some ⟨19,202,none⟩),.pointer (some ⟨g,0,none⟩),.int .u64 409],.agg #[.pointer (some ⟨19,202,none⟩),.pointer (some ⟨b,0,none⟩),.int .u64 153]]).run Tryz.prog W
   =.ok (.tuple #[]) (W.setRow g #[x]):=by
 have hl:=run_loadVar_row (P:=Tryz.prog) W b 202 202 #[x] fr _ hb Tryz.underlying202 rfl (by kernel_rfl)
 have hs:=run_storeVar_row (P:=Tryz.prog) W g 202 202 #[old0] #[x] ht (by kernel_rfl) rfl (by simp[hx])
 rw[rls]
 simp only[Sem.run_bind,partsWa,partsW,Result.andThen]
 simp[ReflectliteValue.flagAddr,hl,hs,Result.andThen,direct]
set_option maxHeartbeats 4000000 in
set_option maxRecDepth 100000 in
theorem as_inner(g:Nat)(old0 x y:Value)(w:World)(hy:y.oneCell'=true)(hg:w.cell? ⟨7,0,none⟩=some (.iface 263 (.agg #[.pointer (some ⟨19,98,none⟩)])))
  (ht:w.heap[g]? =some (.cells #[old0] 202 (0,0))):
  Calls Tryz.prog 85 #[.iface 143 (.agg #[x,.iface 202 (.agg #[y])]),.iface 203 (.pointer (some ⟨g,0,none⟩))] w fun ev w'=>ev=.returned (.bool true)∧Below g w w'∧w'.heap[g]? =some (.cells #[y] 202 (0,0)):=by
 have h6:= @run_callFunc_extern Tryz.prog 117 _ (fun args=>ReflectliteValue.unpack (args.getD 0 (.tuple #[]))) Tryz.func117 (by kernel_rfl) (by kernel_rfl) (by kernel_rfl) (by kernel_rfl)
 have h7:= @run_callFunc_extern Tryz.prog 118 _ (ReflectliteValue.methodAny (ReflectliteValue.valueError "reflectlite.Value.Type" 0) (fun t _ _ _=>ReflectliteType.toType t)) Tryz.func118 (by kernel_rfl) (by kernel_rfl) (by kernel_rfl) (by kernel_rfl)
 have h8:= @run_callFunc_extern Tryz.prog 119 _ (ReflectliteValue.method (ReflectliteValue.valueError "reflectlite.Value.IsNil" 0) ReflectliteValue.isNil) Tryz.func119 (by kernel_rfl) (by kernel_rfl) (by kernel_rfl) (by kernel_rfl)
 have h27:= @run_callFunc_extern Tryz.prog 227 _ (ReflectliteType.abiMethod fun t=>do pure (.int .u8 (←Rtype.kind t))) Tryz.func227 (by kernel_rfl) (by kernel_rfl) (by kernel_rfl) (by kernel_rfl)
 have h37:= @run_callFunc_extern Tryz.prog 247 _ (ReflectliteType.method ReflectliteType.elem) Tryz.func247 (by kernel_rfl) (by kernel_rfl) (by kernel_rfl) (by kernel_rfl)
 have h38:= @run_callFunc_extern Tryz.prog 248 _ (ReflectliteType.relation "Implements" ReflectliteType.implements_) Tryz.func248 (by kernel_rfl) (by kernel_rfl) (by kernel_rfl) (by kernel_rfl)
 have h10:= @run_callFunc_extern Tryz.prog 121 _ ReflectliteType.typeOf Tryz.func121 (by kernel_rfl) (by kernel_rfl) (by kernel_rfl) (by kernel_rfl)
 have h35:= @run_callFunc_extern Tryz.prog 245 _ (ReflectliteType.relation "AssignableTo" ReflectliteType.assignableTo) Tryz.func245 (by kernel_rfl) (by kernel_rfl) (by kernel_rfl) (by kernel_rfl)
 have h11:= @run_callFunc_extern Tryz.prog 155 _ (ReflectliteValue.method (ReflectliteValue.valueError "reflectlite.Value.Elem" 0) ReflectliteValue.elem) Tryz.func155 (by kernel_rfl) (by kernel_rfl) (by kernel_rfl) (by kernel_rfl)
 have h12:= @run_callFunc_extern Tryz.prog 156 _ ReflectliteValue.set Tryz.func156 (by kernel_rfl) (by kernel_rfl) (by kernel_rfl) (by kernel_rfl)
 have tO:=typeOfW
 have mA:=methodAssignableTo
 have a25:=assignW
 have v25:=valueOfW
 have f6:=valueOfP
 have f7:=typeP
 have mK:=methodKind
 have mE:=methodElem
 have mI:=methodImplements
 have k27:=kindP
 have k25:=kindW
 have e27:=elemP
 have i25:=implementsW
 have hlt:g < w.heap.size:=by
  rcases Nat.lt_or_ge g w.heap.size with h | h
  ·exact h
  ·simp[Array.getElem?_eq_none h] at ht
 have hgg:7 < w.heap.size:=by
  rcases Nat.lt_or_ge 7 w.heap.size with h | h
  ·exact h
  ·simp[World.cell?,Array.getElem?_eq_none h] at hg
 have hg2:((w.alloc (.cells #[.pointer (some ⟨g,0,none⟩)] 203)).alloc (.cells #[.pointer (some ⟨19,203,none⟩),.pointer (some ⟨w.heap.size,0,none⟩),.int .u64 150] 209)).cell? ⟨7,0,none⟩=some (.iface 263 (.agg #[.pointer (some ⟨19,98,none⟩)])):=by
  rw[World.cell?_alloc_lt _ _ ⟨7,0,none⟩ (by simp;omega),World.cell?_alloc_lt _ _ ⟨7,0,none⟩ hgg];exact hg
 have n8:=isNil ⟨w.heap.size,0,none⟩ ⟨g,0,none⟩ ((w.alloc (.cells #[.pointer (some ⟨g,0,none⟩)] 203)).alloc (.cells #[.pointer (some ⟨19,203,none⟩),.pointer (some ⟨w.heap.size,0,none⟩),.int .u64 150] 209)) (by simp)
 have el:=elemV ⟨w.heap.size,0,none⟩ ⟨g,0,none⟩ (((w.alloc (.cells #[.pointer (some ⟨g,0,none⟩)] 203)).alloc (.cells #[.pointer (some ⟨19,203,none⟩),.pointer (some ⟨w.heap.size,0,none⟩),.int .u64 150] 209)).alloc (.cells #[.pointer (some ⟨19,203,none⟩),.pointer (some ⟨w.heap.size,0,none⟩),.int .u64 150] 209)) (by rw[World.cell?_alloc_lt _ _ ⟨w.heap.size,0,none⟩ (by simp;omega)];simp)
 have tV:=typeOfV
 have tS:=typeOfES
 have aV:=assignV
 have aS:=assignES
 have nV:=noAsV
 have nS:=noAsES
 have uS:=noUnwrapE
 have vS:=noUnwrapsE
 have hV:=hasUnwrapV
 have mU:=methodUnwrap
 have el2:=elemV ⟨w.heap.size,0,none⟩ ⟨g,0,none⟩ ((((w.alloc (.cells #[.pointer (some ⟨g,0,none⟩)] 203)).alloc (.cells #[.pointer (some ⟨19,203,none⟩),.pointer (some ⟨w.heap.size,0,none⟩),.int .u64 150] 209)).alloc (.cells #[.pointer (some ⟨19,203,none⟩),.pointer (some ⟨w.heap.size,0,none⟩),.int .u64 150] 209)).alloc (.cells #[x,.iface 202 (.agg #[y])] 143)) (by rw[World.cell?_alloc_lt _ _ ⟨w.heap.size,0,none⟩ (by simp;omega),World.cell?_alloc_lt _ _ ⟨w.heap.size,0,none⟩ (by simp;omega)];simp)
 have st:=setW g (w.heap.size+1+1+1+1) old0 y (0,0) (((((w.alloc (.cells #[.pointer (some ⟨g,0,none⟩)] 203)).alloc (.cells #[.pointer (some ⟨19,203,none⟩),.pointer (some ⟨w.heap.size,0,none⟩),.int .u64 150] 209)).alloc (.cells #[.pointer (some ⟨19,203,none⟩),.pointer (some ⟨w.heap.size,0,none⟩),.int .u64 150] 209)).alloc (.cells #[x,.iface 202 (.agg #[y])] 143)).alloc (.cells #[y] 202)) hy (by have:=World.alloc_heap_new ((((w.alloc (.cells #[.pointer (some ⟨g,0,none⟩)] 203)).alloc (.cells #[.pointer (some ⟨19,203,none⟩),.pointer (some ⟨w.heap.size,0,none⟩),.int .u64 150] 209)).alloc (.cells #[.pointer (some ⟨19,203,none⟩),.pointer (some ⟨w.heap.size,0,none⟩),.int .u64 150] 209)).alloc (.cells #[x,.iface 202 (.agg #[y])] 143)) (.cells #[y] 202);simpa using this) (by rw[Below.heap_alloc _ _ _ (by simp;omega),Below.heap_alloc _ _ _ (by simp;omega),Below.heap_alloc _ _ _ (by simp;omega),Below.heap_alloc _ _ _ (by simp;omega),Below.heap_alloc _ _ _ hlt];exact ht)
 go_enter Tryz.func85,Tryz.ntmps85
 go_wp2
 refine wp_loop_rounds 2 ?_
 rw[rounds_succ]
 go_wp2
 rw[rounds_succ]
 go_wp2
 go_ret
 refine⟨rfl,?_,?_⟩
 ·exact below_setRow (((((((Below.refl g w).alloc (by omega) _).alloc (by simp;omega) _).alloc (by simp;omega) _).alloc (by simp;omega) _).alloc (by simp;omega) _)) (Nat.le_refl _) _
 ·refine setRow_heap _ g #[old0] _ _ _ ?_
  rw[Below.heap_alloc _ _ _ (by simp;omega),Below.heap_alloc _ _ _ (by simp;omega),Below.heap_alloc _ _ _ (by simp;omega),Below.heap_alloc _ _ _ (by simp;omega),Below.heap_alloc _ _ _ hlt];exact ht
set_option maxHeartbeats 4000000 in
set_option maxRecDepth 100000 in
theorem as_miss(g:Nat)(old0 x:Value)(b:Addr)(w:World)(hg:w.cell? ⟨7,0,none⟩=some (.iface 263 (.agg #[.pointer (some ⟨19,98,none⟩)])))
  (ht:w.heap[g]? =some (.cells #[old0] 202 (0,0))):
  Calls Tryz.prog 85 #[.iface 143 (.agg #[x,.iface 348 (.pointer (some b))]),.iface 203 (.pointer (some ⟨g,0,none⟩))] w fun ev w'=>ev=.returned (.bool false)∧Below w.heap.size w w':=by
 have h6:= @run_callFunc_extern Tryz.prog 117 _ (fun args=>ReflectliteValue.unpack (args.getD 0 (.tuple #[]))) Tryz.func117 (by kernel_rfl) (by kernel_rfl) (by kernel_rfl) (by kernel_rfl)
 have h7:= @run_callFunc_extern Tryz.prog 118 _ (ReflectliteValue.methodAny (ReflectliteValue.valueError "reflectlite.Value.Type" 0) (fun t _ _ _=>ReflectliteType.toType t)) Tryz.func118 (by kernel_rfl) (by kernel_rfl) (by kernel_rfl) (by kernel_rfl)
 have h8:= @run_callFunc_extern Tryz.prog 119 _ (ReflectliteValue.method (ReflectliteValue.valueError "reflectlite.Value.IsNil" 0) ReflectliteValue.isNil) Tryz.func119 (by kernel_rfl) (by kernel_rfl) (by kernel_rfl) (by kernel_rfl)
 have h27:= @run_callFunc_extern Tryz.prog 227 _ (ReflectliteType.abiMethod fun t=>do pure (.int .u8 (←Rtype.kind t))) Tryz.func227 (by kernel_rfl) (by kernel_rfl) (by kernel_rfl) (by kernel_rfl)
 have h37:= @run_callFunc_extern Tryz.prog 247 _ (ReflectliteType.method ReflectliteType.elem) Tryz.func247 (by kernel_rfl) (by kernel_rfl) (by kernel_rfl) (by kernel_rfl)
 have h38:= @run_callFunc_extern Tryz.prog 248 _ (ReflectliteType.relation "Implements" ReflectliteType.implements_) Tryz.func248 (by kernel_rfl) (by kernel_rfl) (by kernel_rfl) (by kernel_rfl)
 have h10:= @run_callFunc_extern Tryz.prog 121 _ ReflectliteType.typeOf Tryz.func121 (by kernel_rfl) (by kernel_rfl) (by kernel_rfl) (by kernel_rfl)
 have h35:= @run_callFunc_extern Tryz.prog 245 _ (ReflectliteType.relation "AssignableTo" ReflectliteType.assignableTo) Tryz.func245 (by kernel_rfl) (by kernel_rfl) (by kernel_rfl) (by kernel_rfl)
 have h11:= @run_callFunc_extern Tryz.prog 155 _ (ReflectliteValue.method (ReflectliteValue.valueError "reflectlite.Value.Elem" 0) ReflectliteValue.elem) Tryz.func155 (by kernel_rfl) (by kernel_rfl) (by kernel_rfl) (by kernel_rfl)
 have h12:= @run_callFunc_extern Tryz.prog 156 _ ReflectliteValue.set Tryz.func156 (by kernel_rfl) (by kernel_rfl) (by kernel_rfl) (by kernel_rfl)
 have tO:=typeOfW
 have mA:=methodAssignableTo
 have a25:=assignW
 have v25:=valueOfW
 have f6:=valueOfP
 have f7:=typeP
 have mK:=methodKind
 have mE:=methodElem
 have mI:=methodImplements
 have k27:=kindP
 have k25:=kindW
 have e27:=elemP
 have i25:=implementsW
 have hlt:g < w.heap.size:=by
  rcases Nat.lt_or_ge g w.heap.size with h | h
  ·exact h
  ·simp[Array.getElem?_eq_none h] at ht
 have hgg:7 < w.heap.size:=by
  rcases Nat.lt_or_ge 7 w.heap.size with h | h
  ·exact h
  ·simp[World.cell?,Array.getElem?_eq_none h] at hg
 have hg2:((w.alloc (.cells #[.pointer (some ⟨g,0,none⟩)] 203)).alloc (.cells #[.pointer (some ⟨19,203,none⟩),.pointer (some ⟨w.heap.size,0,none⟩),.int .u64 150] 209)).cell? ⟨7,0,none⟩=some (.iface 263 (.agg #[.pointer (some ⟨19,98,none⟩)])):=by
  rw[World.cell?_alloc_lt _ _ ⟨7,0,none⟩ (by simp;omega),World.cell?_alloc_lt _ _ ⟨7,0,none⟩ hgg];exact hg
 have n8:=isNil ⟨w.heap.size,0,none⟩ ⟨g,0,none⟩ ((w.alloc (.cells #[.pointer (some ⟨g,0,none⟩)] 203)).alloc (.cells #[.pointer (some ⟨19,203,none⟩),.pointer (some ⟨w.heap.size,0,none⟩),.int .u64 150] 209)) (by simp)
 have el:=elemV ⟨w.heap.size,0,none⟩ ⟨g,0,none⟩ (((w.alloc (.cells #[.pointer (some ⟨g,0,none⟩)] 203)).alloc (.cells #[.pointer (some ⟨19,203,none⟩),.pointer (some ⟨w.heap.size,0,none⟩),.int .u64 150] 209)).alloc (.cells #[.pointer (some ⟨19,203,none⟩),.pointer (some ⟨w.heap.size,0,none⟩),.int .u64 150] 209)) (by rw[World.cell?_alloc_lt _ _ ⟨w.heap.size,0,none⟩ (by simp;omega)];simp)
 have tV:=typeOfV
 have tS:=typeOfES
 have aV:=assignV
 have aS:=assignES
 have nV:=noAsV
 have nS:=noAsES
 have uS:=noUnwrapE
 have vS:=noUnwrapsE
 have hV:=hasUnwrapV
 have mU:=methodUnwrap
 go_enter Tryz.func85,Tryz.ntmps85
 go_wp2
 refine wp_loop_rounds 2 ?_
 rw[rounds_succ]
 go_wp2
 rw[rounds_succ]
 go_wp2
 go_ret
 exact⟨rfl,((((Below.refl w.heap.size w).alloc (by omega) _).alloc (by simp) _).alloc (by simp <;> omega) _).alloc (by simp <;> omega) _⟩
set_option maxRecDepth 100000 in
theorem as_nil(g:Nat)(old0:Value)(w:World)(_ht:w.heap[g]? =some (.cells #[old0] 202 (0,0))):
  Calls Tryz.prog 85 #[.nilIface,.iface 203 (.pointer (some ⟨g,0,none⟩))] w fun ev w'=>ev=.returned (.bool false)∧Below w.heap.size w w':=by
 go_enter Tryz.func85,Tryz.ntmps85
 go_wp2
 go_ret
 exact⟨rfl,Below.refl _ _⟩
end Go.Proofs.YtknelogmocedeaaGreatDoor.AsTlv
namespace Go.Proofs.YtknelogmocedeaaGreatDoor.IsTlv
open Go.RowKit Go.Extern.Stop Go.Stop Go.Extern
theorem isTypeOf(v:Value)(w:World):(Extern.ReflectliteType.typeOf #[.iface 348 v]).run Tryz.prog w=.ok (.iface 263 (.agg #[.pointer (some ⟨19,348,none⟩)])) w:=by kernel_rfl
def cmpEntry:Array Value→Sem Value:=Extern.ReflectliteType.method fun t=>do Rtype.noPackHeld "Comparable" t;pure (.bool (←typeInfo t).comparable)
theorem isComparable(w:World):(cmpEntry #[.agg #[.pointer (some ⟨19,348,none⟩)]]).run Tryz.prog w=.ok (.bool true) w:=by kernel_rfl
theorem isMethodComparable(v:Value)(w:World):(Go.method 477 263 v "Comparable").run Tryz.prog w=.ok (246,v) w:=by kernel_rfl
theorem isComp:(Tryz.prog.info? 348).map (·.comparable)=some true:=by kernel_rfl
theorem isSize:(Tryz.prog.info? 366).map (·.size)=some 1:=by kernel_rfl
theorem noIsE(v:Value)(xT:TypeId)(w:World):(Instr.typeAssert (.iface 348 v) xT 274 true).run Tryz.prog w=.ok (.tuple #[.nilIface,.bool false]) w:=run_typeAssert_lacksB Tryz.underlying274 (by kernel_rfl) (by kernel_rfl) v xT w
theorem noUnwrapE(v:Value)(xT:TypeId)(w:World):(Instr.typeAssert (.iface 348 v) xT 270 true).run Tryz.prog w=.ok (.tuple #[.nilIface,.bool false]) w:=run_typeAssert_lacksB Tryz.underlying270 (by kernel_rfl) (by kernel_rfl) v xT w
theorem noUnwrapsE(v:Value)(xT:TypeId)(w:World):(Instr.typeAssert (.iface 348 v) xT 271 true).run Tryz.prog w=.ok (.tuple #[.nilIface,.bool false]) w:=run_typeAssert_lacksB Tryz.underlying271 (by kernel_rfl) (by kernel_rfl) v xT w
theorem noIsW(v:Value)(xT:TypeId)(w:World):(Instr.typeAssert (.iface 143 v) xT 274 true).run Tryz.prog w=.ok (.tuple #[.nilIface,.bool false]) w:=run_typeAssert_lacksB Tryz.underlying274 (by kernel_rfl) (by kernel_rfl) v xT w
theorem hasUnwrapW(v:Value)(xT:TypeId)(w:World):(Instr.typeAssert (.iface 143 v) xT 270 true).run Tryz.prog w=.ok (.tuple #[.iface 143 v,.bool true]) w:=run_typeAssert_hasB Tryz.underlying270 (by kernel_rfl) v xT w
theorem methodUnwrap(v:Value)(w:World):(Go.method 477 143 v "Unwrap").run Tryz.prog w=.ok (231,v) w:=by kernel_rfl
set_option maxRecDepth 100000 in
set_option maxHeartbeats 4000000 in
theorem is_same(x:Value)(b:Addr)(w:World):
  Calls Tryz.prog 86 #[.iface 143 (.agg #[x,.iface 348 (.pointer (some b))]),.iface 348 (.pointer (some b))] w fun e w'=>e=.returned (.bool true)∧w.alloc (.cells #[x,.iface 348 (.pointer (some b))] 143)=w':=by
 obtain⟨i,hi,hcmp⟩:=Option.map_eq_some_iff.1 isComp
 obtain⟨j,hj,hjs⟩:=Option.map_eq_some_iff.1 isSize
 have h8:= @run_callFunc_extern Tryz.prog 121 _ Extern.ReflectliteType.typeOf Tryz.func121 (by kernel_rfl) (by kernel_rfl) (by kernel_rfl) (by kernel_rfl)
 have h32:= @run_callFunc_extern Tryz.prog 246 _ cmpEntry Tryz.func246 (by kernel_rfl) (by kernel_rfl) (by kernel_rfl) (by kernel_rfl)
 have tT:=isTypeOf
 have cT:=isComparable
 have mR:=isMethodComparable
 have nE:=noIsE
 have uE:=noUnwrapE
 have vE:=noUnwrapsE
 have nW:=noIsW
 have uW:=hasUnwrapW
 have mU:=methodUnwrap
 have heq:=run_eql_iface_ptr_same (P:=Tryz.prog) (w.alloc (.cells #[x,.iface 348 (.pointer (some b))] 143)) b Tryz.underlying98 Tryz.underlying348 hi hcmp hj
 have hty:=run_eql_iface_types (P:=Tryz.prog) 143 348 (.agg #[x,.iface 348 (.pointer (some b))]) (.pointer (some b)) Tryz.underlying98 (by decide) w
 clear hi hcmp hj hjs
 go_enter Tryz.func86,Tryz.ntmps86
 go_wp2
 refine wp_loop_rounds 2 ?_
 rw[rounds_succ]
 go_wp2
 rw[rounds_succ]
 go_wp2
 go_ret
 exact⟨rfl,rfl⟩
set_option maxRecDepth 100000 in
set_option maxHeartbeats 4000000 in
theorem is_other(x:Value)(a b:Addr)(ca cb:Array Value)(ta tb:TypeId)(w:World)(hne:a≠b)(ha:w.heap[a.block]? =some (.cells ca ta (0,0)))(hb:w.heap[b.block]? =some (.cells cb tb (0,0))):
  Calls Tryz.prog 86 #[.iface 143 (.agg #[x,.iface 348 (.pointer (some a))]),.iface 348 (.pointer (some b))] w fun e w'=>e=.returned (.bool false)∧w.alloc (.cells #[x,.iface 348 (.pointer (some a))] 143)=w':=by
 obtain⟨i,hi,hcmp⟩:=Option.map_eq_some_iff.1 isComp
 obtain⟨j,hj,hjs⟩:=Option.map_eq_some_iff.1 isSize
 have h8:= @run_callFunc_extern Tryz.prog 121 _ Extern.ReflectliteType.typeOf Tryz.func121 (by kernel_rfl) (by kernel_rfl) (by kernel_rfl) (by kernel_rfl)
 have h32:= @run_callFunc_extern Tryz.prog 246 _ cmpEntry Tryz.func246 (by kernel_rfl) (by kernel_rfl) (by kernel_rfl) (by kernel_rfl)
 have tT:=isTypeOf
 have cT:=isComparable
 have mR:=isMethodComparable
 have nE:=noIsE
 have uE:=noUnwrapE
 have vE:=noUnwrapsE
 have nW:=noIsW
 have uW:=hasUnwrapW
 have mU:=methodUnwrap
 have heq:=run_eql_iface_ptr_other (P:=Tryz.prog) (w.alloc (.cells #[x,.iface 348 (.pointer (some a))] 143)) Tryz.underlying98 Tryz.underlying348 hi hcmp hj (by rw[hjs];decide) hne
  (by rw[show(w.alloc (.cells #[x,.iface 348 (.pointer (some a))] 143)).heap[a.block]? =w.heap[a.block]? from by show(w.heap.push _)[a.block]? =_;rw[Array.getElem?_push,if_neg (by have:=(Array.getElem?_eq_some_iff.1 ha).1;omega)]];exact ha)
  (by rw[show(w.alloc (.cells #[x,.iface 348 (.pointer (some a))] 143)).heap[b.block]? =w.heap[b.block]? from by show(w.heap.push _)[b.block]? =_;rw[Array.getElem?_push,if_neg (by have:=(Array.getElem?_eq_some_iff.1 hb).1;omega)]];exact hb)
 have hty:=run_eql_iface_types (P:=Tryz.prog) 143 348 (.agg #[x,.iface 348 (.pointer (some a))]) (.pointer (some b)) Tryz.underlying98 (by decide) w
 clear hi hcmp hj hjs ha hb hne
 go_enter Tryz.func86,Tryz.ntmps86
 go_wp2
 refine wp_loop_rounds 2 ?_
 rw[rounds_succ]
 go_wp2
 rw[rounds_succ]
 go_wp2
 go_ret
 exact⟨rfl,rfl⟩
end Go.Proofs.YtknelogmocedeaaGreatDoor.IsTlv
