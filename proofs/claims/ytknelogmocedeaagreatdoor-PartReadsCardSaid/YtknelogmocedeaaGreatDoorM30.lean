/- Several texts, one behind the other. Contracts of functions of Go's library, as the kit's shelf proves them of whatever program, at this program's numbers. Each states its own conditions. tlv, walked: texts one behind the other (strings.Join). Conditions: at most 10^9 bytes. tlv, plain: how long right trees' bytes are; what is wrong with what is read, and where; no error is none. No program. errors.As and errors.Is at an error type of the package Tlv: a struct of one cell, wrapped in another one of two (Go's text of both is walked). No conditions beyond the shape of memory that each theorem names. errors.Is at an error of the package Tlv that wraps a sentinel, against a sentinel: true just if it is that one (Go's text is walked). No conditions beyond the shape of memory that each theorem names. tlv.told: the number of an error. Conditions: the package's variables hold their sentinels. tlv, walked: errors told. size, walked: a length's least bytes (Encode), where there are some. Conditions: lengths that may be. -/
import Derived.Shelf.Strings.OnBuilder
import Derived.Test.YtknelogmocedeaaGreatDoorProg
import Derived.Test.YtknelogmocedeaaGreatDoorM25
import Derived.Test.YtknelogmocedeaaGreatDoorM01
import Derived.WalkKit
import Derived.Below
import Derived.KernelRfl
import Derived.LaidEql
import Derived.Stop.Asserts
import Derived.RowKitTokens
import Derived.Outline
import Derived.Laws.Rows
import Derived.RangeFuncRecord
import Derived.Laws.Tables
namespace Go.Proofs.YtknelogmocedeaaGreatDoor
open Go.Shelf
def Shelf.Laysn156_ren:Go.Shelf.Ren:=⟨fun | 156=>152 | 165=>179 | 166=>180 | 169=>181 | 240=>192 | 241=>193 | 276=>201 | 277=>202 | n=>n,fun | 0=>0 | 3=>3 | 4=>4 | 5=>5 | 9=>9 | 20=>20 | 31=>22 | 37=>44 | 70=>300 | 72=>302 | 75=>98 | 76=>289 | 80=>304 | 127=>320 | 164=>206 | n=>n,fun | n=>n⟩
theorem Shelf.Laysn156:Go.Proofs.Lays.n156 Tryz.prog Shelf.Laysn156_ren:={
 mixed:=by kernel_rfl
 f156:=Tryz.func152.trans (congrArg some (by kernel_rfl))
 f165:=Tryz.func179.trans (congrArg some (by kernel_rfl))
 f166:=Tryz.func180.trans (congrArg some (by kernel_rfl))
 f169:=Tryz.func181.trans (congrArg some (by kernel_rfl))
 f240:=Tryz.func192.trans (congrArg some (by kernel_rfl))
 f241:=Tryz.func193.trans (congrArg some (by kernel_rfl))
 f276:=Tryz.func201.trans (congrArg some (by kernel_rfl))
 f277:=Tryz.func202.trans (congrArg some (by kernel_rfl))
 t0:=Tryz.underlying0
 a0:=Tryz.isAgg0
 z0:=Tryz.sizeOf0
 v0:=Tryz.zeroValue0
 t3:=Tryz.underlying3
 a3:=Tryz.isAgg3
 z3:=Tryz.sizeOf3
 v3:=Tryz.zeroValue3
 t4:=Tryz.underlying4
 a4:=Tryz.isAgg4
 z4:=Tryz.sizeOf4
 v4:=Tryz.zeroValue4
 t9:=Tryz.underlying9
 a9:=Tryz.isAgg9
 z9:=Tryz.sizeOf9
 v9:=Tryz.zeroValue9
 t20:=Tryz.underlying20
 a20:=Tryz.isAgg20
 z20:=Tryz.sizeOf20
 v20:=Tryz.zeroValue20
 t31:=Tryz.underlying22
 a31:=Tryz.isAgg22
 z31:=Tryz.sizeOf22
 v31:=Tryz.zeroValue22
 t37:=Tryz.underlying44
 a37:=Tryz.isAgg44
 z37:=Tryz.sizeOf44
 v37:=Tryz.zeroValue44
 t70:=Tryz.underlying300
 a70:=Tryz.isAgg300
 z70:=Tryz.sizeOf300
 v70:=Tryz.zeroValue300
 t72:=Tryz.underlying302
 a72:=Tryz.isAgg302
 z72:=Tryz.sizeOf302
 v72:=Tryz.zeroValue302
 t75:=Tryz.underlying98
 a75:=Tryz.isAgg98
 z75:=Tryz.sizeOf98
 v75:=Tryz.zeroValue98
 t76:=Tryz.underlying289
 a76:=Tryz.isAgg289
 z76:=Tryz.sizeOf289
 v76:=Tryz.zeroValue289
 t127:=Tryz.underlying320
 a127:=Tryz.isAgg320
 z127:=Tryz.sizeOf320
 v127:=Tryz.zeroValue320
 t164:=Tryz.underlying206
 a164:=Tryz.isAgg206
 z164:=Tryz.sizeOf206
 v164:=Tryz.zeroValue206}
theorem Shelf.Builder_Extra_Laysn156:Builder.Extra Tryz.prog Shelf.Laysn156_ren:={
 sizeBuilder:=by kernel_rfl
 liesBuilder:=by kernel_rfl
 t5:=Tryz.underlying5
 a5:=Tryz.isAgg5
 z5:=Tryz.sizeOf5
 v5:=Tryz.zeroValue5
 infoByte:=by kernel_rfl
 cellsByte:=by kernel_rfl
 sizeByte:=by kernel_rfl
 neB5:=by decide}
open Go.RowKit in
theorem Shelf.strings_Join_none (a:Option Addr)(c:Nat)(sep:ByteArray)(w:World):
  Calls Tryz.prog 152 #[.slice a 0 c,.string sep] w fun e w'=>e=.returned (.string ⟨#[]⟩)∧w'=w:=Any.strings_Join_none Shelf.Laysn156 Shelf.Builder_Extra_Laysn156 a c sep w
open Go.RowKit in
theorem Shelf.strings_Join (bk o c:Nat)(xs:List ByteArray)(sep:ByteArray)(w:World)(hcells:∀(j:Nat) x,xs[j]? =some x→w.cell? ⟨bk,o+j,none⟩=some (.string x))(hbk:bk < w.heap.size)(hN:xs.length≤140737488355328)(hcap:xs.length≤c)(hlen:(Lib.join (xs.map (·.data.toList)) sep.data.toList).length≤140737488355328):
  Calls Tryz.prog 152 #[.slice (some ⟨bk,o,none⟩) xs.length c,.string sep] w fun e w'=>e=.returned (.string ⟨(Lib.join (xs.map (·.data.toList)) sep.data.toList).toArray⟩)∧Below w.heap.size w w':=Any.strings_Join Shelf.Laysn156 Shelf.Builder_Extra_Laysn156 bk o c xs sep w hcells hbk hN hcap hlen
end Go.Proofs.YtknelogmocedeaaGreatDoor
namespace Go.Proofs.YtknelogmocedeaaGreatDoor.Tl
open Go.RowKit Go.Shelf Go.Lib
open Fl (bl bt' bl_bt bl_of size_bl)
open Fi (encS one_arg two_args)
set_option linter.unusedVariables false
theorem repl_one{w:World}{L:Lv}{x:V}{cs:List Value}(h:RepL w L [x] cs):∃u,cs=[u]∧Rep w L x u:=by
 obtain⟨u,us,rfl,_,h1,h2⟩:=h
 rw[show us=[] from h2]
 exact⟨u,rfl,h1⟩
def catL(xs:List ByteArray):List UInt8:=(xs.map bl).flatten
variable (p : Nat → Addr)
theorem join_cat(xs:List ByteArray):Lib.join (xs.map (·.data.toList)) []=catL xs:=by
 unfold catL
 show([]:List UInt8).intercalate (xs.map bl)=_
 generalize xs.map bl=l
 induction l with
 | nil=>rfl
 | cons x r ih=>
  cases r with
  | nil=>simp[List.intercalate,List.intersperse]
  | cons y t=>
   simp only[List.intercalate,List.intersperse,List.flatten_cons,List.nil_append] at ih ⊢
   rw[ih]
theorem join_fn(xs:List ByteArray)(hn:xs.length≤1000000000)(hl:(catL xs).length≤1000000000):Fn Tryz.prog (envX p) 152 [.v (.sl (xs.map encS)),.v (.str (bt' []))] (.v (.str (bt' (catL xs)))):=
 Fn.of_plain (enter_of (by kernel_rfl)) rfl fun w L vs hE ha=>by
  obtain⟨v,v',rfl,h,h'⟩:=two_args ha
  rw[show v'=.string (bt' []) from h']
  have hv:VSlice 1 VStr w (fun _=>True) [v] xs:=rep_view (k:=1) (R:=VStr) (enc:=encS) (by omega) (fun _=>rfl) (fun x cs h=>by
   obtain⟨u,rfl,h1⟩:=repl_one h
   rw[show u=.string x from h1]
   rfl) h
  obtain⟨A,k,rfl,hk,hx⟩:=hv.open
  by_cases h0:xs=[]
  ·subst h0
   refine(Shelf.strings_Join_none A k (bt' []) w).mono ?_
   rintro e w' ⟨rfl,rfl⟩
   exact⟨rfl,Below.refl _ _⟩
  ·obtain⟨b,o,rfl,_,hb,hc⟩:=hx h0
   refine(Shelf.strings_Join b o k xs (bt' []) w (fun j x hj=>by
    obtain⟨ws,e1,e2⟩:=hc j x hj
    have e1':ws=[.string x]:=e1
    subst e1'
    have:=e2 0 _ rfl
    simpa using this) hb (by omega) hk (by rw[show(bt' []).data.toList=[] from rfl,join_cat];omega)).mono ?_
   rintro e w' ⟨rfl,hb⟩
   refine⟨?_,hb⟩
   rw[show(bt' []).data.toList=[] from rfl,join_cat]
   rfl
end Go.Proofs.YtknelogmocedeaaGreatDoor.Tl
namespace Go.Proofs.YtknelogmocedeaaGreatDoor.Tl
open Go.Lib
open Fl (bl bt' bl_bt bl_of size_bl)
set_option linter.unusedVariables false
mutual
theorem lay_le:∀(d:Nat) (n:Nd),(preN d n).all okN=true→(layN n).length≤4005*(preN d n).length
 | d,.mk t x k,ha=>by
  rw[preN,List.all_cons,Bool.and_eq_true] at ha
  obtain⟨h0,hk⟩:=ha
  unfold okN at h0
  simp only[Bool.and_eq_true,decide_eq_true_eq] at h0
  have h1:x.size≤4000:=h0.2.2
  have h2:=lays_le (d+1) k hk
  have h3:=(szL_len (layNs k++bl x).length).2
  rw[layN,preN,List.length_cons,List.length_cons,List.length_append]
  generalize szL (layNs k++bl x).length=z at*
  rw[List.length_append,size_bl]
  omega
theorem lays_le:∀(d:Nat) (l:List Nd),(preNs d l).all okN=true→(layNs l).length≤4005*(preNs d l).length
 | _,[],_=>Nat.zero_le _
 | d,x::r,ha=>by
  rw[preNs,List.all_append,Bool.and_eq_true] at ha
  have h1:=lay_le d x ha.1
  have h2:=lays_le d r ha.2
  rw[layNs,preNs,List.length_append,List.length_append]
  omega
end
theorem lay_pos(n:Nd):1≤(layN n).length:=by obtain⟨b,l,e⟩:=layN_ne n;rw[e];simp
theorem len_lays:∀l:List Nd,l.length≤(layNs l).length
 | []=>Nat.zero_le _
 | x::r=>by
  rw[layNs,List.length_append,List.length_cons]
  have h1:=lay_pos x
  have h2:=len_lays r
  omega
def teC:TE→Nat
 | .short=>10
 | .tag=>20
 | .node=>21
 | .len e=>e
variable {rd : Nat → List UInt8 → Except TE (Nd × List UInt8 × Nat)}
end Go.Proofs.YtknelogmocedeaaGreatDoor.Tl
namespace Go.Proofs.YtknelogmocedeaaGreatDoor.AsTlv
open Go.RowKit Go.Extern.Stop Go.Stop Go.Extern
theorem rlm(z:Sem Value)(f:TypeId→Addr→Nat→Nat→Sem Value)(v:Value):
  ReflectliteValue.method z f #[v]=(do match ←ReflectliteValue.parts v with | none=>z | some (t,a,fl)=>f t a fl (fl % 32)):=rfl
theorem rls(v x:Value):ReflectliteValue.set #[v,x]=(do
  let (some (dst,a,fl),some (src,b,_)):=(←ReflectliteValue.parts v,←ReflectliteValue.parts x)
   | unsupported (.noEntry "extern/(internal/reflectlite.Value).Set.zeroValue")
  if fl / ReflectliteValue.flagAddr % 2==0 then unsupported (.noEntry "extern/(internal/reflectlite.Value).Set.unaddressable")
  let val ←loadVar src b
  if ←Rtype.directlyAssignable dst src then storeVar dst a val
  else if ←Rtype.implements dst src then
   if(←Rtype.kind src)==20 then
    match val with
    | .nilIface=>unsupported (.noEntry "extern/reflectlite: a nil value of one interface type handed on as a value of another")
    | _=>storeVar dst a val
   else storeVar dst a (.iface src val)
  else panicString ("reflectlite.Set: value of type " ++(←Rtype.spelt src)++ " is not assignable to type " ++(←Rtype.spelt dst))
  pure (.tuple #[])):=rfl
theorem below_setRow{B g:Nat}{w w':World}(h:Below B w w')(hB:B≤g)(cs:Array Value):Below B w (w'.setRow g cs):=
 h.trans ⟨rfl,rfl,rfl,by simp[World.setRow],fun k hk=>by simp only[World.setRow,Array.getElem?_modify];rw[if_neg (by omega)]⟩
theorem valueOfP(t:Addr)(w:World):(ReflectliteValue.unpack (.iface 203 (.pointer (some t)))).run Tryz.prog w
  =.ok (.agg #[.pointer (some ⟨19,203,none⟩),.pointer (some ⟨w.heap.size,0,none⟩),.int .u64 150]) (w.alloc (.cells #[.pointer (some t)] 203)):=by kernel_rfl
theorem typeP(a:Addr)(w:World):(ReflectliteValue.methodAny (ReflectliteValue.valueError "reflectlite.Value.Type" 0) (fun t _ _ _=>ReflectliteType.toType t) #[.agg #[.pointer (some ⟨19,203,none⟩),.pointer (some a),.int .u64 150]]).run Tryz.prog w
  =.ok (.iface 263 (.agg #[.pointer (some ⟨19,203,none⟩)])) w:=by kernel_rfl
theorem elemP(w:World):(ReflectliteType.method ReflectliteType.elem #[.agg #[.pointer (some ⟨19,203,none⟩)]]).run Tryz.prog w=.ok (.iface 263 (.agg #[.pointer (some ⟨19,202,none⟩)])) w:=by kernel_rfl
theorem kindP(w:World):((ReflectliteType.abiMethod fun t=>(fun a:Nat=>Value.int IntKind.u8 (a:Int)) <$> Rtype.kind t) #[.pointer (some ⟨19,203,none⟩)]).run Tryz.prog w=.ok (.int .u8 22) w:=by kernel_rfl
theorem kindW(w:World):((ReflectliteType.abiMethod fun t=>(fun a:Nat=>Value.int IntKind.u8 (a:Int)) <$> Rtype.kind t) #[.pointer (some ⟨19,202,none⟩)]).run Tryz.prog w=.ok (.int .u8 25) w:=by kernel_rfl
theorem implementsW(w:World):(ReflectliteType.relation "Implements" ReflectliteType.implements_ #[.agg #[.pointer (some ⟨19,202,none⟩)],.iface 263 (.agg #[.pointer (some ⟨19,98,none⟩)])]).run Tryz.prog w=.ok (.bool true) w:=by kernel_rfl
theorem typeOfW(v:Value)(w:World):(ReflectliteType.typeOf #[.iface 202 v]).run Tryz.prog w=.ok (.iface 263 (.agg #[.pointer (some ⟨19,202,none⟩)])) w:=by kernel_rfl
theorem assignW(w:World):(ReflectliteType.relation "AssignableTo" ReflectliteType.assignableTo #[.agg #[.pointer (some ⟨19,202,none⟩)],.iface 263 (.agg #[.pointer (some ⟨19,202,none⟩)])]).run Tryz.prog w=.ok (.bool true) w:=by kernel_rfl
theorem typeOfV(v:Value)(w:World):(ReflectliteType.typeOf #[.iface 143 v]).run Tryz.prog w=.ok (.iface 263 (.agg #[.pointer (some ⟨19,143,none⟩)])) w:=by kernel_rfl
theorem typeOfES(v:Value)(w:World):(ReflectliteType.typeOf #[.iface 348 v]).run Tryz.prog w=.ok (.iface 263 (.agg #[.pointer (some ⟨19,348,none⟩)])) w:=by kernel_rfl
theorem assignV(w:World):(ReflectliteType.relation "AssignableTo" ReflectliteType.assignableTo #[.agg #[.pointer (some ⟨19,143,none⟩)],.iface 263 (.agg #[.pointer (some ⟨19,202,none⟩)])]).run Tryz.prog w=.ok (.bool false) w:=by kernel_rfl
theorem assignES(w:World):(ReflectliteType.relation "AssignableTo" ReflectliteType.assignableTo #[.agg #[.pointer (some ⟨19,348,none⟩)],.iface 263 (.agg #[.pointer (some ⟨19,202,none⟩)])]).run Tryz.prog w=.ok (.bool false) w:=by kernel_rfl
theorem noAsV(v:Value)(xT:TypeId)(w:World):(Instr.typeAssert (.iface 143 v) xT 267 true).run Tryz.prog w=.ok (.tuple #[.nilIface,.bool false]) w:=run_typeAssert_lacksB Tryz.underlying267 (by kernel_rfl) (by kernel_rfl) v xT w
theorem noAsES(v:Value)(xT:TypeId)(w:World):(Instr.typeAssert (.iface 348 v) xT 267 true).run Tryz.prog w=.ok (.tuple #[.nilIface,.bool false]) w:=run_typeAssert_lacksB Tryz.underlying267 (by kernel_rfl) (by kernel_rfl) v xT w
theorem noUnwrapE(v:Value)(xT:TypeId)(w:World):(Instr.typeAssert (.iface 348 v) xT 270 true).run Tryz.prog w=.ok (.tuple #[.nilIface,.bool false]) w:=run_typeAssert_lacksB Tryz.underlying270 (by kernel_rfl) (by kernel_rfl) v xT w
theorem noUnwrapsE(v:Value)(xT:TypeId)(w:World):(Instr.typeAssert (.iface 348 v) xT 271 true).run Tryz.prog w=.ok (.tuple #[.nilIface,.bool false]) w:=run_typeAssert_lacksB Tryz.underlying271 (by kernel_rfl) (by kernel_rfl) v xT w
theorem hasUnwrapV(v:Value)(xT:TypeId)(w:World):(Instr.typeAssert (.iface 143 v) xT 270 true).run Tryz.prog w=.ok (.tuple #[.iface 143 v,.bool true]) w:=run_typeAssert_hasB Tryz.underlying270 (by kernel_rfl) v xT w
theorem methodUnwrap(v:Value)(w:World):(Go.method 477 143 v "Unwrap").run Tryz.prog w=.ok (231,v) w:=by kernel_rfl
theorem valueOfW(x:Value)(w:World):(ReflectliteValue.unpack (.iface 202 (.agg #[x]))).run Tryz.prog w
  =.ok (.agg #[.pointer (some ⟨19,202,none⟩),.pointer (some ⟨w.heap.size,0,none⟩),.int .u64 153]) (w.alloc (.cells #[x] 202)):=by kernel_rfl
theorem methodKind(h:Value)(w:World):(Go.method 477 263 (.agg #[h]) "Kind").run Tryz.prog w=.ok (227,h) w:=by kernel_rfl
theorem methodElem(h:Value)(w:World):(Go.method 477 263 (.agg #[h]) "Elem").run Tryz.prog w=.ok (247,.agg #[h]) w:=by kernel_rfl
theorem methodImplements(h:Value)(w:World):(Go.method 477 263 (.agg #[h]) "Implements").run Tryz.prog w=.ok (248,.agg #[h]) w:=by kernel_rfl
theorem methodAssignableTo(h:Value)(w:World):(Go.method 477 263 (.agg #[h]) "AssignableTo").run Tryz.prog w=.ok (245,.agg #[h]) w:=by kernel_rfl
theorem parts(a:Addr)(w:World):(ReflectliteValue.parts (.agg #[.pointer (some ⟨19,203,none⟩),.pointer (some a),.int .u64 150])).run Tryz.prog w=.ok (some (203,a,150)) w:=by kernel_rfl
theorem partsWa(a:Addr)(w:World):(ReflectliteValue.parts (.agg #[.pointer (some ⟨19,202,none⟩),.pointer (some a),.int .u64 409])).run Tryz.prog w=.ok (some (202,a,409)) w:=by kernel_rfl
theorem partsW(a:Addr)(w:World):(ReflectliteValue.parts (.agg #[.pointer (some ⟨19,202,none⟩),.pointer (some a),.int .u64 153])).run Tryz.prog w=.ok (some (202,a,153)) w:=by kernel_rfl
theorem elemOf(w:World):(Rtype.elem? 203).run Tryz.prog w=.ok (some 202) w:=by kernel_rfl
theorem mkW(p:Addr)(w:World):(ReflectliteValue.mk 202 p ReflectliteValue.flagAddr).run Tryz.prog w=.ok (.agg #[.pointer (some ⟨19,202,none⟩),.pointer (some p),.int .u64 409]) w:=by kernel_rfl
theorem isNil(a p:Addr)(W:World)(ha:W.cell? a=some (.pointer (some p))):
  (ReflectliteValue.method (ReflectliteValue.valueError "reflectlite.Value.IsNil" 0) ReflectliteValue.isNil #[.agg #[.pointer (some ⟨19,203,none⟩),.pointer (some a),.int .u64 150]]).run Tryz.prog W=.ok (.bool false) W:=by
 rw[rlm]
 simp only[Sem.run_bind,parts,Result.andThen]
 simp[ReflectliteValue.isNil,loadVar,isAgg,underlying,Tryz.underlying203,ha,Result.andThen]
theorem elemV(a p:Addr)(W:World)(ha:W.cell? a=some (.pointer (some p))):
  (ReflectliteValue.method (ReflectliteValue.valueError "reflectlite.Value.Elem" 0) ReflectliteValue.elem #[.agg #[.pointer (some ⟨19,203,none⟩),.pointer (some a),.int .u64 150]]).run Tryz.prog W
   =.ok (.agg #[.pointer (some ⟨19,202,none⟩),.pointer (some p),.int .u64 409]) W:=by
 rw[rlm]
 simp only[Sem.run_bind,parts,Result.andThen]
 simp[ReflectliteValue.elem,loadVar,isAgg,underlying,Tryz.underlying203,ha,Result.andThen,elemOf,mkW]
theorem direct(w:World):(Rtype.directlyAssignable 202 202).run Tryz.prog w=.ok true w:=by kernel_rfl
theorem setW(g b:Nat)(old0 x:Value)(fr:Nat×Nat)(W:World)(hx:x.oneCell'=true)(hb:W.heap[b]? =some (.cells #[x] 202 fr))(ht:W.heap[g]? =some (.cells #[old0] 202 (0,0))):
  (ReflectliteValue.set #[.agg #[.pointer (some ⟨19,202,none⟩),.pointer (some ⟨g,0,none⟩),.int .u64 409],.agg #[.pointer (some ⟨19,202,none⟩),.pointer (some ⟨b,0,none⟩),.int .u64 153]]).run Tryz.prog W
   =.ok (.tuple #[]) (W.setRow g #[x]):=by
 have hl:=run_loadVar_row (P:=Tryz.prog) W b 202 202 #[x] fr _ hb Tryz.underlying202 rfl (by kernel_rfl)
 have hs:=run_storeVar_row (P:=Tryz.prog) W g 202 202 #[old0] #[x] ht (by kernel_rfl) rfl (by simp[hx])
 rw[rls]
 simp only[Sem.run_bind,partsWa,partsW,Result.andThen]
 simp[ReflectliteValue.flagAddr,hl,hs,Result.andThen,direct]
set_option maxHeartbeats 4000000 in
set_option maxRecDepth 100000 in
theorem as_inner(g:Nat)(old0 x y:Value)(w:World)(hy:y.oneCell'=true)(hg:w.cell? ⟨7,0,none⟩=some (.iface 263 (.agg #[.pointer (some ⟨19,98,none⟩)])))
  (ht:w.heap[g]? =some (.cells #[old0] 202 (0,0))):
  Calls Tryz.prog 85 #[.iface 143 (.agg #[x,.iface 202 (.agg #[y])]),.iface 203 (.pointer (some ⟨g,0,none⟩))] w fun ev w'=>ev=.returned (.bool true)∧Below g w w'∧w'.heap[g]? =some (.cells #[y] 202 (0,0)):=by
 have h6:= @run_callFunc_extern Tryz.prog 117 _ (fun args=>ReflectliteValue.unpack (args.getD 0 (.tuple #[]))) Tryz.func117 (by kernel_rfl) (by kernel_rfl) (by kernel_rfl) (by kernel_rfl)
 have h7:= @run_callFunc_extern Tryz.prog 118 _ (ReflectliteValue.methodAny (ReflectliteValue.valueError "reflectlite.Value.Type" 0) (fun t _ _ _=>ReflectliteType.toType t)) Tryz.func118 (by kernel_rfl) (by kernel_rfl) (by kernel_rfl) (by kernel_rfl)
 have h8:= @run_callFunc_extern Tryz.prog 119 _ (ReflectliteValue.method (ReflectliteValue.valueError "reflectlite.Value.IsNil" 0) ReflectliteValue.isNil) Tryz.func119 (by kernel_rfl) (by kernel_rfl) (by kernel_rfl) (by kernel_rfl)
 have h27:= @run_callFunc_extern Tryz.prog 227 _ (ReflectliteType.abiMethod fun t=>do pure (.int .u8 (←Rtype.kind t))) Tryz.func227 (by kernel_rfl) (by kernel_rfl) (by kernel_rfl) (by kernel_rfl)
 have h37:= @run_callFunc_extern Tryz.prog 247 _ (ReflectliteType.method ReflectliteType.elem) Tryz.func247 (by kernel_rfl) (by kernel_rfl) (by kernel_rfl) (by kernel_rfl)
 have h38:= @run_callFunc_extern Tryz.prog 248 _ (ReflectliteType.relation "Implements" ReflectliteType.implements_) Tryz.func248 (by kernel_rfl) (by kernel_rfl) (by kernel_rfl) (by kernel_rfl)
 have h10:= @run_callFunc_extern Tryz.prog 121 _ ReflectliteType.typeOf Tryz.func121 (by kernel_rfl) (by kernel_rfl) (by kernel_rfl) (by kernel_rfl)
 have h35:= @run_callFunc_extern Tryz.prog 245 _ (ReflectliteType.relation "AssignableTo" ReflectliteType.assignableTo) Tryz.func245 (by kernel_rfl) (by kernel_rfl) (by kernel_rfl) (by kernel_rfl)
 have h11:= @run_callFunc_extern Tryz.prog 155 _ (ReflectliteValue.method (ReflectliteValue.valueError "reflectlite.Value.Elem" 0) ReflectliteValue.elem) Tryz.func155 (by kernel_rfl) (by kernel_rfl) (by kernel_rfl) (by kernel_rfl)
 have h12:= @run_callFunc_extern Tryz.prog 156 _ ReflectliteValue.set Tryz.func156 (by kernel_rfl) (by kernel_rfl) (by kernel_rfl) (by kernel_rfl)
 have tO:=typeOfW
 have mA:=methodAssignableTo
 have a25:=assignW
 have v25:=valueOfW
 have f6:=valueOfP
 have f7:=typeP
 have mK:=methodKind
 have mE:=methodElem
 have mI:=methodImplements
 have k27:=kindP
 have k25:=kindW
 have e27:=elemP
 have i25:=implementsW
 have hlt:g < w.heap.size:=by
  rcases Nat.lt_or_ge g w.heap.size with h | h
  ·exact h
  ·simp[Array.getElem?_eq_none h] at ht
 have hgg:7 < w.heap.size:=by
  rcases Nat.lt_or_ge 7 w.heap.size with h | h
  ·exact h
  ·simp[World.cell?,Array.getElem?_eq_none h] at hg
 have hg2:((w.alloc (.cells #[.pointer (some ⟨g,0,none⟩)] 203)).alloc (.cells #[.pointer (some ⟨19,203,none⟩),.pointer (some ⟨w.heap.size,0,none⟩),.int .u64 150] 209)).cell? ⟨7,0,none⟩=some (.iface 263 (.agg #[.pointer (some ⟨19,98,none⟩)])):=by
  rw[World.cell?_alloc_lt _ _ ⟨7,0,none⟩ (by simp;omega),World.cell?_alloc_lt _ _ ⟨7,0,none⟩ hgg];exact hg
 have n8:=isNil ⟨w.heap.size,0,none⟩ ⟨g,0,none⟩ ((w.alloc (.cells #[.pointer (some ⟨g,0,none⟩)] 203)).alloc (.cells #[.pointer (some ⟨19,203,none⟩),.pointer (some ⟨w.heap.size,0,none⟩),.int .u64 150] 209)) (by simp)
 have el:=elemV ⟨w.heap.size,0,none⟩ ⟨g,0,none⟩ (((w.alloc (.cells #[.pointer (some ⟨g,0,none⟩)] 203)).alloc (.cells #[.pointer (some ⟨19,203,none⟩),.pointer (some ⟨w.heap.size,0,none⟩),.int .u64 150] 209)).alloc (.cells #[.pointer (some ⟨19,203,none⟩),.pointer (some ⟨w.heap.size,0,none⟩),.int .u64 150] 209)) (by rw[World.cell?_alloc_lt _ _ ⟨w.heap.size,0,none⟩ (by simp;omega)];simp)
 have tV:=typeOfV
 have tS:=typeOfES
 have aV:=assignV
 have aS:=assignES
 have nV:=noAsV
 have nS:=noAsES
 have uS:=noUnwrapE
 have vS:=noUnwrapsE
 have hV:=hasUnwrapV
 have mU:=methodUnwrap
 have el2:=elemV ⟨w.heap.size,0,none⟩ ⟨g,0,none⟩ ((((w.alloc (.cells #[.pointer (some ⟨g,0,none⟩)] 203)).alloc (.cells #[.pointer (some ⟨19,203,none⟩),.pointer (some ⟨w.heap.size,0,none⟩),.int .u64 150] 209)).alloc (.cells #[.pointer (some ⟨19,203,none⟩),.pointer (some ⟨w.heap.size,0,none⟩),.int .u64 150] 209)).alloc (.cells #[x,.iface 202 (.agg #[y])] 143)) (by rw[World.cell?_alloc_lt _ _ ⟨w.heap.size,0,none⟩ (by simp;omega),World.cell?_alloc_lt _ _ ⟨w.heap.size,0,none⟩ (by simp;omega)];simp)
 have st:=setW g (w.heap.size+1+1+1+1) old0 y (0,0) (((((w.alloc (.cells #[.pointer (some ⟨g,0,none⟩)] 203)).alloc (.cells #[.pointer (some ⟨19,203,none⟩),.pointer (some ⟨w.heap.size,0,none⟩),.int .u64 150] 209)).alloc (.cells #[.pointer (some ⟨19,203,none⟩),.pointer (some ⟨w.heap.size,0,none⟩),.int .u64 150] 209)).alloc (.cells #[x,.iface 202 (.agg #[y])] 143)).alloc (.cells #[y] 202)) hy (by have:=World.alloc_heap_new ((((w.alloc (.cells #[.pointer (some ⟨g,0,none⟩)] 203)).alloc (.cells #[.pointer (some ⟨19,203,none⟩),.pointer (some ⟨w.heap.size,0,none⟩),.int .u64 150] 209)).alloc (.cells #[.pointer (some ⟨19,203,none⟩),.pointer (some ⟨w.heap.size,0,none⟩),.int .u64 150] 209)).alloc (.cells #[x,.iface 202 (.agg #[y])] 143)) (.cells #[y] 202);simpa using this) (by rw[Below.heap_alloc _ _ _ (by simp;omega),Below.heap_alloc _ _ _ (by simp;omega),Below.heap_alloc _ _ _ (by simp;omega),Below.heap_alloc _ _ _ (by simp;omega),Below.heap_alloc _ _ _ hlt];exact ht)
 go_enter Tryz.func85,Tryz.ntmps85
 go_wp2
 refine wp_loop_rounds 2 ?_
 rw[rounds_succ]
 go_wp2
 rw[rounds_succ]
 go_wp2
 go_ret
 refine⟨rfl,?_,?_⟩
 ·exact below_setRow (((((((Below.refl g w).alloc (by omega) _).alloc (by simp;omega) _).alloc (by simp;omega) _).alloc (by simp;omega) _).alloc (by simp;omega) _)) (Nat.le_refl _) _
 ·refine setRow_heap _ g #[old0] _ _ _ ?_
  rw[Below.heap_alloc _ _ _ (by simp;omega),Below.heap_alloc _ _ _ (by simp;omega),Below.heap_alloc _ _ _ (by simp;omega),Below.heap_alloc _ _ _ (by simp;omega),Below.heap_alloc _ _ _ hlt];exact ht
set_option maxHeartbeats 4000000 in
set_option maxRecDepth 100000 in
theorem as_miss(g:Nat)(old0 x:Value)(b:Addr)(w:World)(hg:w.cell? ⟨7,0,none⟩=some (.iface 263 (.agg #[.pointer (some ⟨19,98,none⟩)])))
  (ht:w.heap[g]? =some (.cells #[old0] 202 (0,0))):
  Calls Tryz.prog 85 #[.iface 143 (.agg #[x,.iface 348 (.pointer (some b))]),.iface 203 (.pointer (some ⟨g,0,none⟩))] w fun ev w'=>ev=.returned (.bool false)∧Below w.heap.size w w':=by
 have h6:= @run_callFunc_extern Tryz.prog 117 _ (fun args=>ReflectliteValue.unpack (args.getD 0 (.tuple #[]))) Tryz.func117 (by kernel_rfl) (by kernel_rfl) (by kernel_rfl) (by kernel_rfl)
 have h7:= @run_callFunc_extern Tryz.prog 118 _ (ReflectliteValue.methodAny (ReflectliteValue.valueError "reflectlite.Value.Type" 0) (fun t _ _ _=>ReflectliteType.toType t)) Tryz.func118 (by kernel_rfl) (by kernel_rfl) (by kernel_rfl) (by kernel_rfl)
 have h8:= @run_callFunc_extern Tryz.prog 119 _ (ReflectliteValue.method (ReflectliteValue.valueError "reflectlite.Value.IsNil" 0) ReflectliteValue.isNil) Tryz.func119 (by kernel_rfl) (by kernel_rfl) (by kernel_rfl) (by kernel_rfl)
 have h27:= @run_callFunc_extern Tryz.prog 227 _ (ReflectliteType.abiMethod fun t=>do pure (.int .u8 (←Rtype.kind t))) Tryz.func227 (by kernel_rfl) (by kernel_rfl) (by kernel_rfl) (by kernel_rfl)
 have h37:= @run_callFunc_extern Tryz.prog 247 _ (ReflectliteType.method ReflectliteType.elem) Tryz.func247 (by kernel_rfl) (by kernel_rfl) (by kernel_rfl) (by kernel_rfl)
 have h38:= @run_callFunc_extern Tryz.prog 248 _ (ReflectliteType.relation "Implements" ReflectliteType.implements_) Tryz.func248 (by kernel_rfl) (by kernel_rfl) (by kernel_rfl) (by kernel_rfl)
 have h10:= @run_callFunc_extern Tryz.prog 121 _ ReflectliteType.typeOf Tryz.func121 (by kernel_rfl) (by kernel_rfl) (by kernel_rfl) (by kernel_rfl)
 have h35:= @run_callFunc_extern Tryz.prog 245 _ (ReflectliteType.relation "AssignableTo" ReflectliteType.assignableTo) Tryz.func245 (by kernel_rfl) (by kernel_rfl) (by kernel_rfl) (by kernel_rfl)
 have h11:= @run_callFunc_extern Tryz.prog 155 _ (ReflectliteValue.method (ReflectliteValue.valueError "reflectlite.Value.Elem" 0) ReflectliteValue.elem) Tryz.func155 (by kernel_rfl) (by kernel_rfl) (by kernel_rfl) (by kernel_rfl)
 have h12:= @run_callFunc_extern Tryz.prog 156 _ ReflectliteValue.set Tryz.func156 (by kernel_rfl) (by kernel_rfl) (by kernel_rfl) (by kernel_rfl)
 have tO:=typeOfW
 have mA:=methodAssignableTo
 have a25:=assignW
 have v25:=valueOfW
 have f6:=valueOfP
 have f7:=typeP
 have mK:=methodKind
 have mE:=methodElem
 have mI:=methodImplements
 have k27:=kindP
 have k25:=kindW
 have e27:=elemP
 have i25:=implementsW
 have hlt:g < w.heap.size:=by
  rcases Nat.lt_or_ge g w.heap.size with h | h
  ·exact h
  ·simp[Array.getElem?_eq_none h] at ht
 have hgg:7 < w.heap.size:=by
  rcases Nat.lt_or_ge 7 w.heap.size with h | h
  ·exact h
  ·simp[World.cell?,Array.getElem?_eq_none h] at hg
 have hg2:((w.alloc (.cells #[.pointer (some ⟨g,0,none⟩)] 203)).alloc (.cells #[.pointer (some ⟨19,203,none⟩),.pointer (some ⟨w.heap.size,0,none⟩),.int .u64 150] 209)).cell? ⟨7,0,none⟩=some (.iface 263 (.agg #[.pointer (some ⟨19,98,none⟩)])):=by
  rw[World.cell?_alloc_lt _ _ ⟨7,0,none⟩ (by simp;omega),World.cell?_alloc_lt _ _ ⟨7,0,none⟩ hgg];exact hg
 have n8:=isNil ⟨w.heap.size,0,none⟩ ⟨g,0,none⟩ ((w.alloc (.cells #[.pointer (some ⟨g,0,none⟩)] 203)).alloc (.cells #[.pointer (some ⟨19,203,none⟩),.pointer (some ⟨w.heap.size,0,none⟩),.int .u64 150] 209)) (by simp)
 have el:=elemV ⟨w.heap.size,0,none⟩ ⟨g,0,none⟩ (((w.alloc (.cells #[.pointer (some ⟨g,0,none⟩)] 203)).alloc (.cells #[.pointer (some ⟨19,203,none⟩),.pointer (some ⟨w.heap.size,0,none⟩),.int .u64 150] 209)).alloc (.cells #[.pointer (some ⟨19,203,none⟩),.pointer (some ⟨w.heap.size,0,none⟩),.int .u64 150] 209)) (by rw[World.cell?_alloc_lt _ _ ⟨w.heap.size,0,none⟩ (by simp;omega)];simp)
 have tV:=typeOfV
 have tS:=typeOfES
 have aV:=assignV
 have aS:=assignES
 have nV:=noAsV
 have nS:=noAsES
 have uS:=noUnwrapE
 have vS:=noUnwrapsE
 have hV:=hasUnwrapV
 have mU:=methodUnwrap
 go_enter Tryz.func85,Tryz.ntmps85
 go_wp2
 refine wp_loop_rounds 2 ?_
 rw[rounds_succ]
 go_wp2
 rw[rounds_succ]
 go_wp2
 go_ret
 exact⟨rfl,((((Below.refl w.heap.size w).alloc (by omega) _).alloc (by simp) _).alloc (by simp <;> omega) _).alloc (by simp <;> omega) _⟩
set_option maxRecDepth 100000 in
theorem as_nil(g:Nat)(old0:Value)(w:World)(_ht:w.heap[g]? =some (.cells #[old0] 202 (0,0))):
  Calls Tryz.prog 85 #[.nilIface,.iface 203 (.pointer (some ⟨g,0,none⟩))] w fun ev w'=>ev=.returned (.bool false)∧Below w.heap.size w w':=by
 go_enter Tryz.func85,Tryz.ntmps85
 go_wp2
 go_ret
 exact⟨rfl,Below.refl _ _⟩
end Go.Proofs.YtknelogmocedeaaGreatDoor.AsTlv
namespace Go.Proofs.YtknelogmocedeaaGreatDoor.IsTlv
open Go.RowKit Go.Extern.Stop Go.Stop Go.Extern
theorem isTypeOf(v:Value)(w:World):(Extern.ReflectliteType.typeOf #[.iface 348 v]).run Tryz.prog w=.ok (.iface 263 (.agg #[.pointer (some ⟨19,348,none⟩)])) w:=by kernel_rfl
def cmpEntry:Array Value→Sem Value:=Extern.ReflectliteType.method fun t=>do Rtype.noPackHeld "Comparable" t;pure (.bool (←typeInfo t).comparable)
theorem isComparable(w:World):(cmpEntry #[.agg #[.pointer (some ⟨19,348,none⟩)]]).run Tryz.prog w=.ok (.bool true) w:=by kernel_rfl
theorem isMethodComparable(v:Value)(w:World):(Go.method 477 263 v "Comparable").run Tryz.prog w=.ok (246,v) w:=by kernel_rfl
theorem isComp:(Tryz.prog.info? 348).map (·.comparable)=some true:=by kernel_rfl
theorem isSize:(Tryz.prog.info? 366).map (·.size)=some 1:=by kernel_rfl
theorem noIsE(v:Value)(xT:TypeId)(w:World):(Instr.typeAssert (.iface 348 v) xT 274 true).run Tryz.prog w=.ok (.tuple #[.nilIface,.bool false]) w:=run_typeAssert_lacksB Tryz.underlying274 (by kernel_rfl) (by kernel_rfl) v xT w
theorem noUnwrapE(v:Value)(xT:TypeId)(w:World):(Instr.typeAssert (.iface 348 v) xT 270 true).run Tryz.prog w=.ok (.tuple #[.nilIface,.bool false]) w:=run_typeAssert_lacksB Tryz.underlying270 (by kernel_rfl) (by kernel_rfl) v xT w
theorem noUnwrapsE(v:Value)(xT:TypeId)(w:World):(Instr.typeAssert (.iface 348 v) xT 271 true).run Tryz.prog w=.ok (.tuple #[.nilIface,.bool false]) w:=run_typeAssert_lacksB Tryz.underlying271 (by kernel_rfl) (by kernel_rfl) v xT w
theorem noIsW(v:Value)(xT:TypeId)(w:World):(Instr.typeAssert (.iface 143 v) xT 274 true).run Tryz.prog w=.ok (.tuple #[.nilIface,.bool false]) w:=run_typeAssert_lacksB Tryz.underlying274 (by kernel_rfl) (by kernel_rfl) v xT w
theorem hasUnwrapW(v:Value)(xT:TypeId)(w:World):(Instr.typeAssert (.iface 143 v) xT 270 true).run Tryz.prog w=.ok (.tuple #[.iface 143 v,.bool true]) w:=run_typeAssert_hasB Tryz.underlying270 (by kernel_rfl) v xT w
theorem methodUnwrap(v:Value)(w:World):(Go.method 477 143 v "Unwrap").run Tryz.prog w=.ok (231,v) w:=by kernel_rfl
set_option maxRecDepth 100000 in
set_option maxHeartbeats 4000000 in
theorem is_same(x:Value)(b:Addr)(w:World):
  Calls Tryz.prog 86 #[.iface 143 (.agg #[x,.iface 348 (.pointer (some b))]),.iface 348 (.pointer (some b))] w fun e w'=>e=.returned (.bool true)∧w.alloc (.cells #[x,.iface 348 (.pointer (some b))] 143)=w':=by
 obtain⟨i,hi,hcmp⟩:=Option.map_eq_some_iff.1 isComp
 obtain⟨j,hj,hjs⟩:=Option.map_eq_some_iff.1 isSize
 have h8:= @run_callFunc_extern Tryz.prog 121 _ Extern.ReflectliteType.typeOf Tryz.func121 (by kernel_rfl) (by kernel_rfl) (by kernel_rfl) (by kernel_rfl)
 have h32:= @run_callFunc_extern Tryz.prog 246 _ cmpEntry Tryz.func246 (by kernel_rfl) (by kernel_rfl) (by kernel_rfl) (by kernel_rfl)
 have tT:=isTypeOf
 have cT:=isComparable
 have mR:=isMethodComparable
 have nE:=noIsE
 have uE:=noUnwrapE
 have vE:=noUnwrapsE
 have nW:=noIsW
 have uW:=hasUnwrapW
 have mU:=methodUnwrap
 have heq:=run_eql_iface_ptr_same (P:=Tryz.prog) (w.alloc (.cells #[x,.iface 348 (.pointer (some b))] 143)) b Tryz.underlying98 Tryz.underlying348 hi hcmp hj
 have hty:=run_eql_iface_types (P:=Tryz.prog) 143 348 (.agg #[x,.iface 348 (.pointer (some b))]) (.pointer (some b)) Tryz.underlying98 (by decide) w
 clear hi hcmp hj hjs
 go_enter Tryz.func86,Tryz.ntmps86
 go_wp2
 refine wp_loop_rounds 2 ?_
 rw[rounds_succ]
 go_wp2
 rw[rounds_succ]
 go_wp2
 go_ret
 exact⟨rfl,rfl⟩
set_option maxRecDepth 100000 in
set_option maxHeartbeats 4000000 in
theorem is_other(x:Value)(a b:Addr)(ca cb:Array Value)(ta tb:TypeId)(w:World)(hne:a≠b)(ha:w.heap[a.block]? =some (.cells ca ta (0,0)))(hb:w.heap[b.block]? =some (.cells cb tb (0,0))):
  Calls Tryz.prog 86 #[.iface 143 (.agg #[x,.iface 348 (.pointer (some a))]),.iface 348 (.pointer (some b))] w fun e w'=>e=.returned (.bool false)∧w.alloc (.cells #[x,.iface 348 (.pointer (some a))] 143)=w':=by
 obtain⟨i,hi,hcmp⟩:=Option.map_eq_some_iff.1 isComp
 obtain⟨j,hj,hjs⟩:=Option.map_eq_some_iff.1 isSize
 have h8:= @run_callFunc_extern Tryz.prog 121 _ Extern.ReflectliteType.typeOf Tryz.func121 (by kernel_rfl) (by kernel_rfl) (by kernel_rfl) (by kernel_rfl)
 have h32:= @run_callFunc_extern Tryz.prog 246 _ cmpEntry Tryz.func246 (by kernel_rfl) (by kernel_rfl) (by kernel_rfl) (by kernel_rfl)
 have tT:=isTypeOf
 have cT:=isComparable
 have mR:=isMethodComparable
 have nE:=noIsE
 have uE:=noUnwrapE
 have vE:=noUnwrapsE
 have nW:=noIsW
 have uW:=hasUnwrapW
 have mU:=methodUnwrap
 have heq:=run_eql_iface_ptr_other (P:=Tryz.prog) (w.alloc (.cells #[x,.iface 348 (.pointer (some a))] 143)) Tryz.underlying98 Tryz.underlying348 hi hcmp hj (by rw[hjs];decide) hne
  (by rw[show(w.alloc (.cells #[x,.iface 348 (.pointer (some a))] 143)).heap[a.block]? =w.heap[a.block]? from by show(w.heap.push _)[a.block]? =_;rw[Array.getElem?_push,if_neg (by have:=(Array.getElem?_eq_some_iff.1 ha).1;omega)]];exact ha)
  (by rw[show(w.alloc (.cells #[x,.iface 348 (.pointer (some a))] 143)).heap[b.block]? =w.heap[b.block]? from by show(w.heap.push _)[b.block]? =_;rw[Array.getElem?_push,if_neg (by have:=(Array.getElem?_eq_some_iff.1 hb).1;omega)]];exact hb)
 have hty:=run_eql_iface_types (P:=Tryz.prog) 143 348 (.agg #[x,.iface 348 (.pointer (some a))]) (.pointer (some b)) Tryz.underlying98 (by decide) w
 clear hi hcmp hj hjs ha hb hne
 go_enter Tryz.func86,Tryz.ntmps86
 go_wp2
 refine wp_loop_rounds 2 ?_
 rw[rounds_succ]
 go_wp2
 rw[rounds_succ]
 go_wp2
 go_ret
 exact⟨rfl,rfl⟩
end Go.Proofs.YtknelogmocedeaaGreatDoor.IsTlv
namespace Go.Proofs.YtknelogmocedeaaGreatDoor.ToldTlv
open Go.RowKit
theorem is_yes(x:Value)(b:Addr)(w:World):
  Calls Tryz.prog 86 #[.iface 143 (.agg #[x,.iface 348 (.pointer (some b))]),.iface 348 (.pointer (some b))] w fun e w'=>e=.returned (.bool true)∧Below w.heap.size w w':=
 (IsTlv.is_same x b w).mono fun _ _ h=>⟨h.1,h.2 ▸ (Below.refl _ _).alloc (Nat.le_refl _) _⟩
theorem is_no(x:Value){p:Nat→Addr}{w:World}(hG:Globs w p)(a b:Nat)(ha:a∈senNums)(hb:b∈senNums)(hne:a≠b):
  Calls Tryz.prog 86 #[.iface 143 (.agg #[x,.iface 348 (.pointer (some (p a)))]),.iface 348 (.pointer (some (p b)))] w fun e w'=>e=.returned (.bool false)∧Below w.heap.size w w':=by
 obtain⟨ca,ta,h1⟩:=hG.blk a ha
 obtain⟨cb,tb,h2⟩:=hG.blk b hb
 exact(IsTlv.is_other x (p a) (p b) ca cb ta tb w (hG.inj a b ha hb hne) h1 h2).mono fun _ _ h=>⟨h.1,h.2 ▸ (Below.refl _ _).alloc (Nat.le_refl _) _⟩
set_option maxRecDepth 100000 in
theorem is_nil(b:Addr)(w:World):
  Calls Tryz.prog 86 #[.nilIface,.iface 348 (.pointer (some b))] w fun e w'=>e=.returned (.bool false)∧w=w':=by
 have hnl:=fun w=>run_eql_iface_nil_left (P:=Tryz.prog) (w:=w) 348 (.pointer (some b)) Tryz.underlying98
 go_enter Tryz.func86,Tryz.ntmps86
 go_wp2
 go_ret
 exact⟨rfl,rfl⟩
set_option maxHeartbeats 1000000 in
theorem told_len(n e:Int)(w:World)(p:Nat→Addr)(h:Globs w p):
  Calls Tryz.prog 80 #[.iface 143 (.agg #[.int .i64 n,.iface 202 (.agg #[.int .i64 e])])] w fun ev w'=>ev=.returned (.int .i64 e)∧Below w.heap.size w w':=by
 go_enter Tryz.func80,Tryz.ntmps80
 go_wp2_with fail
 have h1:Below w.heap.size w (w.alloc (.cells #[.int .i64 0] 202)):=below_new _ _
 refine(AsTlv.as_inner w.heap.size (.int .i64 0) (.int .i64 n) (.int .i64 e) _ rfl (h.below h1).et (World.alloc_heap_new w _)).mono ?_
 rintro ev w0 ⟨rfl,hb,hc⟩
 have c0:w0.cell? ⟨w.heap.size,0,none⟩=some (.int .i64 e):=cel hc 0 rfl
 have H0:=Aside.mk (h1.trans hb)
 clear h h1 hb hc
 go_wp2
 go_ret
 exact⟨rfl,H0.out⟩
set_option maxHeartbeats 1000000 in
theorem told_errShort(n:Int)(w:World)(p:Nat→Addr)(h:Globs w p):
  Calls Tryz.prog 80 #[.iface 143 (.agg #[.int .i64 n,.iface 348 (.pointer (some (p 4)))])] w fun e w'=>e=.returned (.int .i64 10)∧Below w.heap.size w w':=by
 go_enter Tryz.func80,Tryz.ntmps80
 go_wp2_with fail
 have h1:Below w.heap.size w (w.alloc (.cells #[.int .i64 0] 202)):=below_new _ _
 refine(AsTlv.as_miss w.heap.size (.int .i64 0) (.int .i64 n) _ _ (h.below h1).et (World.alloc_heap_new w _)).mono ?_
 rintro e w0 ⟨rfl,hb⟩
 have H0:=Aside.mk (below_then h1 hb)
 have h0:=h.below H0.out
 clear h h1 hb
 have k0:=h0.cell 4 (by decide)
 go_wp2_with fail
 refine(is_yes _ _ _).mono ?_
 rintro e w1 ⟨rfl,hb⟩
 have H1:=Aside.mk (below_then H0.out hb)
 have h1:=h0.below hb
 clear k0 hb H0 h0
 go_wp2
 go_ret
 exact⟨rfl,H1.out⟩
set_option maxHeartbeats 1000000 in
theorem told_errTag(n:Int)(w:World)(p:Nat→Addr)(h:Globs w p):
  Calls Tryz.prog 80 #[.iface 143 (.agg #[.int .i64 n,.iface 348 (.pointer (some (p 6)))])] w fun e w'=>e=.returned (.int .i64 20)∧Below w.heap.size w w':=by
 go_enter Tryz.func80,Tryz.ntmps80
 go_wp2_with fail
 have h1:Below w.heap.size w (w.alloc (.cells #[.int .i64 0] 202)):=below_new _ _
 refine(AsTlv.as_miss w.heap.size (.int .i64 0) (.int .i64 n) _ _ (h.below h1).et (World.alloc_heap_new w _)).mono ?_
 rintro e w0 ⟨rfl,hb⟩
 have H0:=Aside.mk (below_then h1 hb)
 have h0:=h.below H0.out
 clear h h1 hb
 have k0:=h0.cell 4 (by decide)
 go_wp2_with fail
 refine(is_no _ h0 6 4 (by decide) (by decide) (by decide)).mono ?_
 rintro e w1 ⟨rfl,hb⟩
 have H1:=Aside.mk (below_then H0.out hb)
 have h1:=h0.below hb
 clear k0 hb H0 h0
 have k0:=h1.cell 5 (by decide)
 go_wp2_with fail
 refine(is_no _ h1 6 5 (by decide) (by decide) (by decide)).mono ?_
 rintro e w2 ⟨rfl,hb⟩
 have H2:=Aside.mk (below_then H1.out hb)
 have h2:=h1.below hb
 clear k0 hb H1 h1
 have k0:=h2.cell 6 (by decide)
 go_wp2_with fail
 refine(is_yes _ _ _).mono ?_
 rintro e w3 ⟨rfl,hb⟩
 have H3:=Aside.mk (below_then H2.out hb)
 have h3:=h2.below hb
 clear k0 hb H2 h2
 go_wp2
 go_ret
 exact⟨rfl,H3.out⟩
set_option maxHeartbeats 1000000 in
theorem told_errNode(n:Int)(w:World)(p:Nat→Addr)(h:Globs w p):
  Calls Tryz.prog 80 #[.iface 143 (.agg #[.int .i64 n,.iface 348 (.pointer (some (p 0)))])] w fun e w'=>e=.returned (.int .i64 21)∧Below w.heap.size w w':=by
 go_enter Tryz.func80,Tryz.ntmps80
 go_wp2_with fail
 have h1:Below w.heap.size w (w.alloc (.cells #[.int .i64 0] 202)):=below_new _ _
 refine(AsTlv.as_miss w.heap.size (.int .i64 0) (.int .i64 n) _ _ (h.below h1).et (World.alloc_heap_new w _)).mono ?_
 rintro e w0 ⟨rfl,hb⟩
 have H0:=Aside.mk (below_then h1 hb)
 have h0:=h.below H0.out
 clear h h1 hb
 have k0:=h0.cell 4 (by decide)
 go_wp2_with fail
 refine(is_no _ h0 0 4 (by decide) (by decide) (by decide)).mono ?_
 rintro e w1 ⟨rfl,hb⟩
 have H1:=Aside.mk (below_then H0.out hb)
 have h1:=h0.below hb
 clear k0 hb H0 h0
 have k0:=h1.cell 5 (by decide)
 go_wp2_with fail
 refine(is_no _ h1 0 5 (by decide) (by decide) (by decide)).mono ?_
 rintro e w2 ⟨rfl,hb⟩
 have H2:=Aside.mk (below_then H1.out hb)
 have h2:=h1.below hb
 clear k0 hb H1 h1
 have k0:=h2.cell 6 (by decide)
 go_wp2_with fail
 refine(is_no _ h2 0 6 (by decide) (by decide) (by decide)).mono ?_
 rintro e w3 ⟨rfl,hb⟩
 have H3:=Aside.mk (below_then H2.out hb)
 have h3:=h2.below hb
 clear k0 hb H2 h2
 have k0:=h3.cell 0 (by decide)
 go_wp2_with fail
 refine(is_yes _ _ _).mono ?_
 rintro e w4 ⟨rfl,hb⟩
 have H4:=Aside.mk (below_then H3.out hb)
 have h4:=h3.below hb
 clear k0 hb H3 h3
 go_wp2
 go_ret
 exact⟨rfl,H4.out⟩
set_option maxHeartbeats 1000000 in
theorem told_nil(w:World)(p:Nat→Addr)(h:Globs w p):
  Calls Tryz.prog 80 #[.nilIface] w fun e w'=>e=.returned (.int .i64 0)∧Below w.heap.size w w':=by
 go_enter Tryz.func80,Tryz.ntmps80
 go_wp2_with fail
 have h1:Below w.heap.size w (w.alloc (.cells #[.int .i64 0] 202)):=below_new _ _
 refine(AsTlv.as_nil w.heap.size (.int .i64 0) _ (World.alloc_heap_new w _)).mono ?_
 rintro e w0 ⟨rfl,hb⟩
 have H0:=Aside.mk (below_then h1 hb)
 have h0:=h.below H0.out
 clear h h1 hb
 have k0:=h0.cell 4 (by decide)
 go_wp2_with fail
 refine(is_nil _ _).mono ?_
 rintro e w1 ⟨rfl,rfl⟩
 have h1:=h0
 have H1:=H0
 clear k0 H0 h0
 have k0:=h1.cell 5 (by decide)
 go_wp2_with fail
 refine(is_nil _ _).mono ?_
 rintro e w2 ⟨rfl,rfl⟩
 have h2:=h1
 have H2:=H1
 clear k0 H1 h1
 have k0:=h2.cell 6 (by decide)
 go_wp2_with fail
 refine(is_nil _ _).mono ?_
 rintro e w3 ⟨rfl,rfl⟩
 have h3:=h2
 have H3:=H2
 clear k0 H2 h2
 have k0:=h3.cell 0 (by decide)
 go_wp2_with fail
 refine(is_nil _ _).mono ?_
 rintro e w4 ⟨rfl,rfl⟩
 have h4:=h3
 have H4:=H3
 clear k0 H3 h3
 go_wp2
 go_ret
 exact⟨rfl,H4.out⟩
end Go.Proofs.YtknelogmocedeaaGreatDoor.ToldTlv
namespace Go.Proofs.YtknelogmocedeaaGreatDoor.Tl
open Go.RowKit Go.Shelf Go.Lib
open Fl (bl bt' bl_bt bl_of size_bl)
open Fi (one_arg)
set_option linter.unusedVariables false
variable (p : Nat → Addr)
def tErr(n:Int)(x:V):V:=.ifc 143 (.agg [.int .i64 n,x])
def shortV:V:=sen p 4
def tagV:V:=sen p 6
def nodeV:V:=sen p 0
def lenV(e:Nat):V:=.ifc 202 (.agg [.int .i64 (e:Nat)])
def teV:TE→V
 | .short=>shortV p
 | .tag=>tagV p
 | .node=>nodeV p
 | .len e=>lenV e
theorem told_nil_fn:Fn Tryz.prog (envX p) 80 [.v .nili] (.v (.int .i64 0)):=
 Fn.of_plain (enter_of (by kernel_rfl)) rfl fun w L vs hE ha=>by
  obtain⟨v,rfl,h⟩:=one_arg ha
  rw[show v=.nilIface from h]
  exact ToldTlv.told_nil w p hE.gl
theorem told_any(n:Int)(x:V)(val:Value)(hx:∀w L u,Rep w L x u→u=val)(code:Int)(hc:∀w:World,Globs w p→Calls Tryz.prog 80 #[.iface 143 (.agg #[.int .i64 n,val])] w fun e w'=>e=.returned (.int .i64 code)∧Below w.heap.size w w'):Fn Tryz.prog (envX p) 80 [.v (tErr n x)] (.v (.int .i64 code)):=
 Fn.of_plain (enter_of (by kernel_rfl)) rfl fun w L vs hE ha=>by
  obtain⟨v,rfl,h⟩:=one_arg ha
  obtain⟨u,rfl,cs,rfl,h1⟩:=h
  obtain⟨u,us,h2,_,h3,u',us',h4,_,h5,h6⟩:=h1
  have:cs=#[.int .i64 n,val]:=by
   rw[h4,show us'=[] from h6,show u=_ from h3,hx _ _ _ h5] at h2
   exact Array.toList_inj.1 h2
  rw[this]
  exact hc w hE.gl
theorem sen_val{g:Nat}{w:World}{L:Lv}{u:Value}(h:Rep w L (sen p g) u):u=.iface 348 (.pointer (some (p g))):=by
 obtain⟨u',rfl,h⟩:=h
 rw[show u'=_ from h]
theorem told_te(n:Int)(e:TE):Fn Tryz.prog (envX p) 80 [.v (tErr n (teV p e))] (.v (.int .i64 (teC e:Nat))):=by
 cases e with
 | short=>exact told_any p n _ _ (fun w L u h=>sen_val p h) 10 (fun w h=>ToldTlv.told_errShort n w p h)
 | tag=>exact told_any p n _ _ (fun w L u h=>sen_val p h) 20 (fun w h=>ToldTlv.told_errTag n w p h)
 | node=>exact told_any p n _ _ (fun w L u h=>sen_val p h) 21 (fun w h=>ToldTlv.told_errNode n w p h)
 | len e=>
  refine told_any p n _ (.iface 202 (.agg #[.int .i64 (e:Nat)])) (fun w L u h=>?_) _ (fun w h=>ToldTlv.told_len n e w p h)
  obtain⟨u,rfl,cs,rfl,u',us,h2,_,h3,h4⟩:=h
  rw[show us=[] from h4,show u'=_ from h3] at h2
  rw[show cs=#[.int .i64 (e:Nat)] from Array.toList_inj.1 h2]
theorem told_node(n:Int):Fn Tryz.prog (envX p) 80 [.v (tErr n (nodeV p))] (.v (.int .i64 21)):=told_te p n .node
end Go.Proofs.YtknelogmocedeaaGreatDoor.Tl
namespace Go.Proofs.YtknelogmocedeaaGreatDoor.Tl
open Go.RowKit Go.Shelf Go.Lib
open Fl (bl bt' bl_bt bl_of size_bl)
open Fi (encS one_arg two_args byteV_len byteV_bytes)
set_option linter.unusedVariables false
theorem sizeTold_nil(w:World):Calls Tryz.prog 183 #[.nilIface] w fun e w'=>e=.returned (.int .i64 0)∧Below w.heap.size w w':=by
 go_enter Tryz.func183,Tryz.ntmps183
 go_wp2
 go_ret
 exact⟨rfl,(Below.refl _ _).alloc (Nat.le_refl _) _⟩
theorem sizeTold_fn{X:En}:Fn Tryz.prog X 183 [.v .nili] (.v (.int .i64 0)):=
 Fn.of_plain (enter_of (by kernel_rfl)) rfl fun w L vs hE ha=>by
  obtain⟨v,rfl,h⟩:=one_arg ha
  rw[show v=.nilIface from h]
  exact sizeTold_nil w
theorem first_fn{X:En}(n:Int)(t:TypeId)(x:V):Fn Tryz.prog X 194 [.v (.int .i64 n),.v (.sl [[.bool false,.ifc t x]])] (.v .nili):=by
 refine fn_prog tabOk mixed Tryz.f194 Tryz.func194 (by kernel_rfl) (by kernel_rfl) ?_
 conv=>whnf
 refine⟨Nat,fun i=>⟨21,[(7,.v (.sl [[.bool false,.ifc t x]])),(8,.v (.int .i64 1)),(9,.v (.int .i64 (i:Nat)))],[],[]⟩,fun i=>i≤1,fun i=>1 - i,⟨0,[],by omega,?_⟩,fun i hi=>?_⟩
 ·(focus ((repeat' first|exact trivial|exact rfl|exact .inl rfl|exact .inr ⟨rfl,rfl⟩|refine And.intro ?_ ?_);done))
 conv=>whnf
 refine⟨rfl,cmp_split (fun h=>?_) (fun h=>?_)⟩
 ·obtain rfl:i=0:=by omega
  conv=>whnf
  refine⟨_,by omega,rfl,rfl,?_⟩
  conv=>whnf
  refine⟨rfl,st_succ (by omega) ?_⟩
  conv=>whnf
  refine⟨1,[],by omega,by dsimp only;omega,?_⟩
  (focus ((repeat' first|exact trivial|exact rfl|exact .inl rfl|exact .inr ⟨rfl,rfl⟩|refine And.intro ?_ ?_);done))
 ·conv=>whnf
  exact⟨.inl rfl,rfl⟩
def partsL:Nat→Nat→List UInt8
 | 0,_=>[]
 | f+1,n=>if n=0 then [] else UInt8.ofNat (n % 256)::partsL f (n / 256)
theorem partsL_succ(f m:Nat):partsL (f+1) m=if m=0 then [] else UInt8.ofNat (m % 256)::partsL f (m / 256):=rfl
theorem u8_wrap(n:Nat):IntKind.u8.wrap ((n:Nat):Int)=(((UInt8.ofNat n).toNat:Nat):Int):=by
 rw[UInt8.toNat_ofNat']
 show((n:Nat):Int) % 256=_
 omega
theorem parts_it{X:En}(n:Nat)(hn:n≤16777215):ItM Tryz.prog X 203 [[.v (.int .i64 (n:Nat))]] [.ptr 0 0] ((partsL 4 n).map fun b=>[.int .u8 b.toNat]) [[.v (.int .i64 0)]]:=by
 refine itM_prog tabOk mixed Tryz.f203 Tryz.func203 (by kernel_rfl) (by kernel_rfl) (by kernel_rfl) rfl rfl rfl rfl fun k hE=>?_
 generalize hg:partsL 4 n=ps
 have hg0:ps.drop 0=partsL 4 n:=by rw[hg];rfl
 conv=>whnf
 refine⟨[],trivial,rfl,Nat×Nat,fun q=>⟨13,[(0,.v (.raw (.func (.yield k.l0) #[] #[]))),(1,.ptr 13 0)],[(13,[.v (.int .i64 (q.2:Nat))])],[]⟩,fun q=>some q.1,fun q=>(q.1≤3∧q.1≤ps.length)∧q.2 < 256 ^ (3 - q.1)∧ps.drop q.1=partsL (4 - q.1) q.2,fun q=>q.2,⟨(0,n),[],⟨⟨by omega,by omega⟩,by show n < 256 ^ 3;omega,hg0⟩,rfl,?_⟩,fun⟨i,m⟩ ⟨⟨h1,h0⟩,h2,h3⟩=>?_⟩
 ·(focus ((repeat' first|exact trivial|exact rfl|exact .inl rfl|exact .inr ⟨rfl,rfl⟩|refine And.intro ?_ ?_);done))
 clear hg hg0
 dsimp only at h0 h1 h2 h3
 conv=>whnf
 refine⟨rfl,cmp_split (fun h=>?_) (fun h=>?_)⟩
 ·have hm:m≠0:=by omega
  have hi:i < 3:=by
   rcases Nat.lt_or_ge i 3 with h | h
   ·exact h
   ·rw[show 3 - i=0 by omega] at h2;omega
  have hm2:m < 16777216:=Nat.lt_of_lt_of_le h2 (Nat.le_trans (Nat.pow_le_pow_right (by omega) (show 3 - i≤3 by omega)) (by decide))
  rw[show 4 - i=(3 - i)+1 by omega,partsL_succ,if_neg hm] at h3
  have hil:i < ps.length:=by
   rcases Nat.lt_or_ge i ps.length with h | h
   ·exact h
   ·rw[List.drop_eq_nil_of_le h] at h3;cases h3
  have hy:(ps.map fun b=>[V.int .u8 b.toNat])[i]? =some [.int .u8 (UInt8.ofNat (m % 256)).toNat]:=by
   rw[List.getElem?_map,←List.head?_drop,h3];rfl
  have h4:ps.drop (i+1)=partsL (4 - (i+1)) (m / 256):=by
   rw[←List.drop_drop,h3,show 4 - (i+1)=3 - i by omega];rfl
  conv=>whnf
  refine st_mod m 256 (by omega) ?_
  conv=>whnf
  refine⟨_,u8_wrap (m % 256),?_⟩
  conv=>whnf
  refine⟨7,_,_,[],_,rfl,rfl,rfl,hy,.inr ⟨rfl,rfl,rfl⟩,?_,?_⟩
  ·conv=>whnf
   refine st_div m 256 (by omega) (by omega) ?_
   conv=>whnf
   refine⟨(i+1,m / 256),[],⟨⟨by dsimp only;omega,by dsimp only;omega⟩,?_,h4⟩,rfl,by dsimp only;omega,?_⟩
   ·dsimp only
    rw[Nat.div_lt_iff_lt_mul (by omega),←Nat.pow_succ,show(3 - (i+1)).succ=3 - i by omega];exact h2
   ·(focus ((repeat' first|exact trivial|exact rfl|exact .inl rfl|exact .inr ⟨rfl,rfl⟩|refine And.intro ?_ ?_);done))
  ·conv=>whnf
   exact .inl rfl
 ·have hm:m=0:=by omega
  subst hm
  have:ps.length≤i:=by
   refine List.drop_eq_nil_iff.1 ?_
   rw[h3,show 4 - i=(3 - i)+1 by omega,partsL_succ,if_pos rfl]
  conv=>whnf
  refine .inr ⟨?_,?_⟩
  ·rw[List.length_map];exact congrArg some (by dsimp only;omega)
  ·(focus ((repeat' first|exact trivial|exact rfl|exact .inl rfl|exact .inr ⟨rfl,rfl⟩|refine And.intro ?_ ?_);done))
theorem lay_fn{X:En}(l:List UInt8)(b:UInt8)(hx:l.length≤1000):FnM Tryz.prog X 195 [[.v (.sl (l.map byteV))]] [.v (.int .u8 (b.toNat:Nat)),.ptr 0 0] (.tup []) [[.v (.sl ((b::l).map byteV))]]:=by
 refine fnM_prog tabOk mixed Tryz.f195 Tryz.func195 (by kernel_rfl) (by kernel_rfl) rfl rfl rfl rfl ?_
 conv=>whnf
 refine st_app (by simp;omega) (byteV_len l) rfl ?_
 conv=>whnf
 (focus ((repeat' first|exact trivial|exact rfl|exact .inl rfl|exact .inr ⟨rfl,rfl⟩|refine And.intro ?_ ?_);done))
theorem parts_be(n:Nat)(h1:1≤n)(h2:n≤16777215):(partsL 4 n).reverse=be n:=by
 unfold be
 by_cases a:n < 256
 ·rw[if_pos a]
  have e1:n / 256=0:=by omega
  have e2:n % 256=n:=by omega
  simp[partsL,e1,e2,show n≠0 by omega]
 ·rw[if_neg a]
  by_cases b:n < 65536
  ·rw[if_pos b]
   have e1:n / 256 / 256=0:=by omega
   have e2:n / 256 % 256=n / 256:=by omega
   simp[partsL,e1,e2,show n≠0 by omega,show n / 256≠0 by omega]
  ·rw[if_neg b]
   have e1:n / 256 / 256 / 256=0:=by omega
   have e2:n / 256 / 256 % 256=n / 65536:=by omega
   simp[partsL,e1,e2,show n≠0 by omega,show n / 256≠0 by omega,show n / 256 / 256≠0 by omega]
variable (p : Nat → Addr)
theorem partsL_len:∀f n:Nat,(partsL f n).length≤f
 | 0,_=>Nat.le_refl _
 | f+1,n=>by
  rw[partsL_succ]
  split
  ·exact Nat.zero_le _
  ·rw[List.length_cons];exact Nat.succ_le_succ (partsL_len f _)
theorem encoded_fn(n:Nat)(h:n≤16777215):Fn Tryz.prog (envX p) 182 [.v (.int .i64 (n:Nat))] (.tup [.v (.str (bt' (szL n))),.v .nili]):=by
 have hpl:=partsL_len 4 n
 refine fn_prog tabOk mixed Tryz.f182 Tryz.func182 (by kernel_rfl) (by kernel_rfl) ?_
 conv=>whnf
 refine⟨rfl,cmp_false (by omega) ?_⟩
 conv=>whnf
 refine⟨rfl,cmp_false (by omega) ?_⟩
 conv=>whnf
 refine⟨sen p 11,⟨by decide,rfl⟩,?_⟩
 conv=>whnf
 refine st_call (first_fn (n:Nat) _ _) ⟨.inl rfl,rfl,trivial⟩ rfl rfl ?_
 conv=>whnf
 refine⟨rfl,cmp_split (fun h1=>?_) (fun h1=>?_)⟩
 ·conv=>whnf
  refine⟨_,u8_wrap n,?_⟩
  conv=>whnf
  refine⟨[UInt8.ofNat (UInt8.ofNat n).toNat],rfl,?_⟩
  conv=>whnf
  exact⟨⟨.inl (by rw[show szL n=[UInt8.ofNat n] from by unfold szL;rw[if_pos (by omega)]];simp[bt',show n % 256=n by omega]),.inl rfl,trivial⟩,rfl⟩
 ·conv=>whnf
  refine st_callN [4] (r:=.fn 203 [.ptr 4 0]) (bs':=[(4,[.v (.int .i64 (n:Nat))]),(6,[.fn 195 [.ptr 5 0]]),(5,[.v .nils])]) (lv':=[]) (args:=[.v (.int .i64 (n:Nat))]) ?_ ?_ ?_ ?_
  ·refine fnI_prog tabOk mixed Tryz.f196 [(4,1)] (upN 4) Tryz.func196 (by kernel_rfl) (by kernel_rfl) rfl rfl ?_
   conv=>whnf
   (focus ((repeat' first|exact trivial|exact rfl|exact .inl rfl|exact .inr ⟨rfl,rfl⟩|refine And.intro ?_ ?_);done))
  ·exact⟨.inl rfl,trivial⟩
  ·rfl
  ·conv=>whnf
   refine⟨[4],[[.v (.int .i64 (n:Nat))]],[[.v (.int .i64 (n:Nat))]],[.ptr 0 0],_,_,none,fun i=>⟨43,[(5,.ptr 5 0),(6,.ptr 6 0)],[(5,[.v (.sl (((partsL 4 n).take i).reverse.map byteV))]),(6,[.fn 195 [.ptr 5 0]])],[]⟩,fun i=>i≤(partsL 4 n).length,parts_it n h,rfl,rfl,⟨⟨⟨.inl rfl,rfl⟩,trivial⟩,trivial⟩,⟨⟨rfl,rfl⟩,trivial⟩,trivial,⟨Nat.zero_le _,[],?_⟩,fun i=>⟨rfl,trivial⟩,fun i=>rfl,(show ∀p∈[31],p < 43 by decide),fun i v hv hi=>?_,fun hi=>?_⟩
   ·(focus ((repeat' first|exact trivial|exact rfl|exact .inl rfl|exact .inr ⟨rfl,rfl⟩|refine And.intro ?_ ?_);done))
   ·rw[List.getElem?_map] at hv
    obtain⟨b,hb,rfl⟩:=Option.map_eq_some_iff.1 hv
    obtain⟨hil,hb⟩:=List.getElem?_eq_some_iff.1 hb
    have hz:b::((partsL 4 n).take i).reverse=((partsL 4 n).take (i+1)).reverse:=by
     rw[List.take_succ_eq_append_getElem hil,hb,List.reverse_append];rfl
    refine⟨rfl,?_⟩
    conv=>whnf
    (refine st_callM [5] ((lay_fn ((partsL 4 n).take i).reverse b (by simp;omega))) rfl ?_ ?_ rfl ?_;(focus ((repeat' first|exact trivial|exact rfl|exact .inl rfl|exact .inr ⟨rfl,rfl⟩|refine And.intro ?_ ?_);done));(focus ((repeat' first|exact trivial|exact rfl|exact .inl rfl|exact .inr ⟨rfl,rfl⟩|refine And.intro ?_ ?_);done));conv=>whnf)
    refine⟨by show i+1≤_;omega,[],?_⟩
    dsimp only
    rw[←hz]
    (focus ((repeat' first|exact trivial|exact rfl|exact .inl rfl|exact .inr ⟨rfl,rfl⟩|refine And.intro ?_ ?_);done))
   ·conv=>whnf
    have e1:(((partsL 4 n).map fun b=>[V.int .u8 (b.toNat:Nat)]).length)=(partsL 4 n).length:=List.length_map _
    have e2:(((partsL 4 n).take (partsL 4 n).length).reverse.map byteV).length=(partsL 4 n).length:=by simp
    rw[e1,e2]
    refine st_add 128 (partsL 4 n).length (by omega) ?_
    conv=>whnf
    refine⟨_,u8_wrap _,?_⟩
    conv=>whnf
    (refine st_callM [5] ((lay_fn ((partsL 4 n).take (partsL 4 n).length).reverse (UInt8.ofNat (128+(partsL 4 n).length)) (by simp;omega))) rfl ?_ ?_ rfl ?_;(focus ((repeat' first|exact trivial|exact rfl|exact .inl rfl|exact .inr ⟨rfl,rfl⟩|refine And.intro ?_ ?_);done));(focus ((repeat' first|exact trivial|exact rfl|exact .inl rfl|exact .inr ⟨rfl,rfl⟩|refine And.intro ?_ ?_);done));conv=>whnf)
    refine⟨_,byteV_bytes (UInt8.ofNat (128+(partsL 4 n).length)::((partsL 4 n).take (partsL 4 n).length).reverse),?_⟩
    conv=>whnf
    refine⟨⟨.inl (congrArg (fun x=>V.str (bt' x)) ?_),.inl rfl,trivial⟩,rfl⟩
    unfold szL
    rw[if_neg (by omega),←parts_be n (by omega) h,List.length_reverse,List.take_length]
theorem encode_fn(n:Nat)(h:n≤16777215):Fn Tryz.prog (envX p) 153 [.v (.int .i64 (n:Nat))] (.tup [.v (.str (bt' (szL n))),.v (.int .i64 0)]):=by
 refine fn_prog tabOk mixed Tryz.f153 Tryz.func153 (by kernel_rfl) (by kernel_rfl) ?_
 conv=>whnf
 (refine st_call (encoded_fn p n h) ?_ rfl rfl ?_;(focus ((repeat' first|exact trivial|exact rfl|exact .inl rfl|exact .inr ⟨rfl,rfl⟩|refine And.intro ?_ ?_);done));conv=>whnf)
 (refine st_call sizeTold_fn ?_ rfl rfl ?_;(focus ((repeat' first|exact trivial|exact rfl|exact .inl rfl|exact .inr ⟨rfl,rfl⟩|refine And.intro ?_ ?_);done));conv=>whnf)
 exact⟨⟨.inl rfl,.inl rfl,trivial⟩,rfl⟩
end Go.Proofs.YtknelogmocedeaaGreatDoor.Tl
