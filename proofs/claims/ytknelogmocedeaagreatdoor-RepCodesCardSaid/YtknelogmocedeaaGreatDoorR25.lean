/- Several texts, one behind the other. What the walks of several layers use: arguments, a contract without memory, what holds of those ahead. errors.As and errors.Is at an error type of the package Prim: a struct of two cells (Go's text of both is walked). No conditions beyond the shape of memory that each theorem names. errors.Is at an error of the package Prim that wraps a sentinel, against a sentinel: true just if it is that one (Go's text is walked). No conditions beyond the shape of memory that each theorem names. prim.told: the number of an error. Conditions: the package's variables hold their sentinels. prim, walked: numbers and truths as bytes. Conditions: texts of at most 10^9 bytes. tlv, walked: how trees stand; which are ones; equality. Conditions: at most 10^8 in one. -/
import Derived.Test.YtknelogmocedeaaGreatDoorR23
import Derived.Test.YtknelogmocedeaaGreatDoorR24
import Derived.Test.YtknelogmocedeaaGreatDoorR22
import Derived.Test.YtknelogmocedeaaGreatDoorR12
import Derived.Test.YtknelogmocedeaaGreatDoorR11
import Derived.Test.YtknelogmocedeaaGreatDoorR01
import Derived.Test.YtknelogmocedeaaGreatDoorProg
import Derived.WalkKit
import Derived.Below
import Derived.KernelRfl
import Derived.LaidEql
import Derived.Stop.Asserts
import Derived.RowKitTokens
import Derived.Outline
import Derived.Laws.Rows
import Derived.RangeFuncRecord
import Derived.Laws.Tables
namespace Go.Proofs.YtknelogmocedeaaGreatDoor.Fi
open Go.RowKit Fl
set_option linter.unusedVariables false
theorem one_arg{P:Program}{w:World}{g:Gh}{t:T}{vs:List Value}(h:RepTs P w g [t] vs):∃v,vs=[v]∧RepT P w g t v:=by
 obtain⟨v,us,rfl,h1,h2⟩:=h
 rw[show us=[] from h2]
 exact⟨v,rfl,h1⟩
theorem two_args{P:Program}{w:World}{g:Gh}{t t':T}{vs:List Value}(h:RepTs P w g [t,t'] vs):∃v v',vs=[v,v']∧RepT P w g t v∧RepT P w g t' v':=by
 obtain⟨v,us,rfl,h1,h2⟩:=h
 obtain⟨v',rfl,h3⟩:=one_arg h2
 exact⟨v,v',rfl,h1,h3⟩
theorem Fn.use {P:Program}{X:En}{f:FuncId}{args:List T}{r:T}(h:Fn P X f args r){w:World}{vs:List Value}(hE:X.E w)(ha:RepTs P w ⟨fun _ _=>False,fun _=>(0,0),fun _=>undef⟩ args vs):Calls P f vs.toArray w fun e w'=>∃v L',e=.returned v∧Below w.heap.size w w'∧RepT P w' ⟨L',fun _=>(0,0),fun _=>undef⟩ r v:=
 (h.2 w (fun _ _=>False) vs hE (fun h=>h.elim) ha).mono fun e w' ⟨v,L',h1,h2,_,_,_,h3⟩=>⟨v,L',h1,h2,h3⟩
def encS(s:ByteArray):List V:=[.str s]
def noX:En:=⟨fun _=>True,fun _=>False,fun _ h=>h.elim,fun _ _ _=>trivial,fun _ _=>False,fun _ h=>h.elim⟩
theorem all_take_succ{α:Type}(f:α→Bool)(l:List α)(i:Nat)(h:i < l.length):(l.take (i+1)).all f=((l.take i).all f&&f l[i]):=by
 rw[List.take_succ_eq_append_getElem h,List.all_append];simp
theorem all_bad{α:Type}{f:α→Bool}{l:List α}{i:Nat}(h:i < l.length)(hf:f l[i]=false):l.all f=false:=by
 cases hq:l.all f
 ·rfl
 ·have:=List.all_eq_true.1 hq l[i] (List.getElem_mem h)
  rw[hf] at this;cases this
theorem tab_sub{P:Program}{tb:Tab}(h:TabOk P tb):TabOk P {tb with sub:=true}:=⟨h.mps,h.eqs,h.fld,h.siz,h.byt,h.elt,h.zer,h.str,h.boo,h.ints,h.conT,h.conF⟩
theorem size0{s:ByteArray}:s.size=0↔s={data:=#[]}:=⟨fun h=>size_zero h,fun h=>by rw[h];rfl⟩
theorem byteV_len(l:List UInt8):∀c∈l.map byteV,c.length=1:=fun c hc=>by
 obtain⟨b,_,rfl⟩:=List.mem_map.1 hc
 rfl
theorem byteV_bytes:∀l:List UInt8,bytesV (l.map byteV)=some l
 | []=>rfl
 | b::r=>by
  rw[List.map_cons,byteV,bytesV,byteV_bytes r]
  simp
end Go.Proofs.YtknelogmocedeaaGreatDoor.Fi
namespace Go.Proofs.YtknelogmocedeaaGreatDoor.AsPrim
open Go.RowKit Go.Extern.Stop Go.Stop Go.Extern
theorem rlm(z:Sem Value)(f:TypeId→Addr→Nat→Nat→Sem Value)(v:Value):
  ReflectliteValue.method z f #[v]=(do match ←ReflectliteValue.parts v with | none=>z | some (t,a,fl)=>f t a fl (fl % 32)):=rfl
theorem rls(v x:Value):ReflectliteValue.set #[v,x]=(do
  let (some (dst,a,fl),some (src,b,_)):=(←ReflectliteValue.parts v,←ReflectliteValue.parts x)
   | unsupported (.noEntry "extern/(internal/reflectlite.Value).Set.zeroValue")
  if fl / ReflectliteValue.flagAddr % 2==0 then unsupported (.noEntry "extern/(internal/reflectlite.Value).Set.unaddressable")
  let val ←loadVar src b
  if ←Rtype.directlyAssignable dst src then storeVar dst a val
  else if ←Rtype.implements dst src then
   if(←Rtype.kind src)==20 then
    match val with
    | .nilIface=>unsupported (.noEntry "extern/reflectlite: a nil value of one interface type handed on as a value of another")
    | _=>storeVar dst a val
   else storeVar dst a (.iface src val)
  else panicString ("reflectlite.Set: value of type " ++(←Rtype.spelt src)++ " is not assignable to type " ++(←Rtype.spelt dst))
  pure (.tuple #[])):=rfl
theorem below_setRow{B g:Nat}{w w':World}(h:Below B w w')(hB:B≤g)(cs:Array Value):Below B w (w'.setRow g cs):=
 h.trans ⟨rfl,rfl,rfl,by simp[World.setRow],fun k hk=>by simp only[World.setRow,Array.getElem?_modify];rw[if_neg (by omega)]⟩
theorem valueOfP(t:Addr)(w:World):(ReflectliteValue.unpack (.iface 287 (.pointer (some t)))).run Tryz.prog w
  =.ok (.agg #[.pointer (some ⟨19,287,none⟩),.pointer (some ⟨w.heap.size,0,none⟩),.int .u64 150]) (w.alloc (.cells #[.pointer (some t)] 287)):=by kernel_rfl
theorem typeP(a:Addr)(w:World):(ReflectliteValue.methodAny (ReflectliteValue.valueError "reflectlite.Value.Type" 0) (fun t _ _ _=>ReflectliteType.toType t) #[.agg #[.pointer (some ⟨19,287,none⟩),.pointer (some a),.int .u64 150]]).run Tryz.prog w
  =.ok (.iface 263 (.agg #[.pointer (some ⟨19,287,none⟩)])) w:=by kernel_rfl
theorem elemP(w:World):(ReflectliteType.method ReflectliteType.elem #[.agg #[.pointer (some ⟨19,287,none⟩)]]).run Tryz.prog w=.ok (.iface 263 (.agg #[.pointer (some ⟨19,233,none⟩)])) w:=by kernel_rfl
theorem kindP(w:World):((ReflectliteType.abiMethod fun t=>(fun a:Nat=>Value.int IntKind.u8 (a:Int)) <$> Rtype.kind t) #[.pointer (some ⟨19,287,none⟩)]).run Tryz.prog w=.ok (.int .u8 22) w:=by kernel_rfl
theorem kindW(w:World):((ReflectliteType.abiMethod fun t=>(fun a:Nat=>Value.int IntKind.u8 (a:Int)) <$> Rtype.kind t) #[.pointer (some ⟨19,233,none⟩)]).run Tryz.prog w=.ok (.int .u8 25) w:=by kernel_rfl
theorem implementsW(w:World):(ReflectliteType.relation "Implements" ReflectliteType.implements_ #[.agg #[.pointer (some ⟨19,233,none⟩)],.iface 263 (.agg #[.pointer (some ⟨19,98,none⟩)])]).run Tryz.prog w=.ok (.bool true) w:=by kernel_rfl
theorem typeOfW(v:Value)(w:World):(ReflectliteType.typeOf #[.iface 233 v]).run Tryz.prog w=.ok (.iface 263 (.agg #[.pointer (some ⟨19,233,none⟩)])) w:=by kernel_rfl
theorem assignW(w:World):(ReflectliteType.relation "AssignableTo" ReflectliteType.assignableTo #[.agg #[.pointer (some ⟨19,233,none⟩)],.iface 263 (.agg #[.pointer (some ⟨19,233,none⟩)])]).run Tryz.prog w=.ok (.bool true) w:=by kernel_rfl
theorem valueOfW(x y:Value)(w:World):(ReflectliteValue.unpack (.iface 233 (.agg #[x,y]))).run Tryz.prog w
  =.ok (.agg #[.pointer (some ⟨19,233,none⟩),.pointer (some ⟨w.heap.size,0,none⟩),.int .u64 153]) (w.alloc (.cells #[x,y] 233)):=by kernel_rfl
theorem methodKind(h:Value)(w:World):(Go.method 477 263 (.agg #[h]) "Kind").run Tryz.prog w=.ok (227,h) w:=by kernel_rfl
theorem methodElem(h:Value)(w:World):(Go.method 477 263 (.agg #[h]) "Elem").run Tryz.prog w=.ok (247,.agg #[h]) w:=by kernel_rfl
theorem methodImplements(h:Value)(w:World):(Go.method 477 263 (.agg #[h]) "Implements").run Tryz.prog w=.ok (248,.agg #[h]) w:=by kernel_rfl
theorem methodAssignableTo(h:Value)(w:World):(Go.method 477 263 (.agg #[h]) "AssignableTo").run Tryz.prog w=.ok (245,.agg #[h]) w:=by kernel_rfl
theorem parts(a:Addr)(w:World):(ReflectliteValue.parts (.agg #[.pointer (some ⟨19,287,none⟩),.pointer (some a),.int .u64 150])).run Tryz.prog w=.ok (some (287,a,150)) w:=by kernel_rfl
theorem partsWa(a:Addr)(w:World):(ReflectliteValue.parts (.agg #[.pointer (some ⟨19,233,none⟩),.pointer (some a),.int .u64 409])).run Tryz.prog w=.ok (some (233,a,409)) w:=by kernel_rfl
theorem partsW(a:Addr)(w:World):(ReflectliteValue.parts (.agg #[.pointer (some ⟨19,233,none⟩),.pointer (some a),.int .u64 153])).run Tryz.prog w=.ok (some (233,a,153)) w:=by kernel_rfl
theorem elemOf(w:World):(Rtype.elem? 287).run Tryz.prog w=.ok (some 233) w:=by kernel_rfl
theorem mkW(p:Addr)(w:World):(ReflectliteValue.mk 233 p ReflectliteValue.flagAddr).run Tryz.prog w=.ok (.agg #[.pointer (some ⟨19,233,none⟩),.pointer (some p),.int .u64 409]) w:=by kernel_rfl
theorem isNil(a p:Addr)(W:World)(ha:W.cell? a=some (.pointer (some p))):
  (ReflectliteValue.method (ReflectliteValue.valueError "reflectlite.Value.IsNil" 0) ReflectliteValue.isNil #[.agg #[.pointer (some ⟨19,287,none⟩),.pointer (some a),.int .u64 150]]).run Tryz.prog W=.ok (.bool false) W:=by
 rw[rlm]
 simp only[Sem.run_bind,parts,Result.andThen]
 simp[ReflectliteValue.isNil,loadVar,isAgg,underlying,Tryz.underlying287,ha,Result.andThen]
theorem elemV(a p:Addr)(W:World)(ha:W.cell? a=some (.pointer (some p))):
  (ReflectliteValue.method (ReflectliteValue.valueError "reflectlite.Value.Elem" 0) ReflectliteValue.elem #[.agg #[.pointer (some ⟨19,287,none⟩),.pointer (some a),.int .u64 150]]).run Tryz.prog W
   =.ok (.agg #[.pointer (some ⟨19,233,none⟩),.pointer (some p),.int .u64 409]) W:=by
 rw[rlm]
 simp only[Sem.run_bind,parts,Result.andThen]
 simp[ReflectliteValue.elem,loadVar,isAgg,underlying,Tryz.underlying287,ha,Result.andThen,elemOf,mkW]
theorem direct(w:World):(Rtype.directlyAssignable 233 233).run Tryz.prog w=.ok true w:=by kernel_rfl
theorem setW(g b:Nat)(old0 old1 x y:Value)(fr:Nat×Nat)(W:World)(hx:x.oneCell'=true)(hy:y.oneCell'=true)(hb:W.heap[b]? =some (.cells #[x,y] 233 fr))(ht:W.heap[g]? =some (.cells #[old0,old1] 233 (0,0))):
  (ReflectliteValue.set #[.agg #[.pointer (some ⟨19,233,none⟩),.pointer (some ⟨g,0,none⟩),.int .u64 409],.agg #[.pointer (some ⟨19,233,none⟩),.pointer (some ⟨b,0,none⟩),.int .u64 153]]).run Tryz.prog W
   =.ok (.tuple #[]) (W.setRow g #[x,y]):=by
 have hl:=run_loadVar_row (P:=Tryz.prog) W b 233 233 #[x,y] fr _ hb Tryz.underlying233 rfl (by kernel_rfl)
 have hs:=run_storeVar_row (P:=Tryz.prog) W g 233 233 #[old0,old1] #[x,y] ht (by kernel_rfl) rfl (by simp[hx,hy])
 rw[rls]
 simp only[Sem.run_bind,partsWa,partsW,Result.andThen]
 simp[ReflectliteValue.flagAddr,hl,hs,Result.andThen,direct]
set_option maxHeartbeats 4000000 in
set_option maxRecDepth 100000 in
theorem as_hit(g:Nat)(old0 old1 x y:Value)(w:World)(hx:x.oneCell'=true)(hy:y.oneCell'=true)(hg:w.cell? ⟨7,0,none⟩=some (.iface 263 (.agg #[.pointer (some ⟨19,98,none⟩)])))
  (ht:w.heap[g]? =some (.cells #[old0,old1] 233 (0,0))):
  Calls Tryz.prog 85 #[.iface 233 (.agg #[x,y]),.iface 287 (.pointer (some ⟨g,0,none⟩))] w fun ev w'=>ev=.returned (.bool true)∧Below g w w'∧w'.heap[g]? =some (.cells #[x,y] 233 (0,0)):=by
 have h6:= @run_callFunc_extern Tryz.prog 117 _ (fun args=>ReflectliteValue.unpack (args.getD 0 (.tuple #[]))) Tryz.func117 (by kernel_rfl) (by kernel_rfl) (by kernel_rfl) (by kernel_rfl)
 have h7:= @run_callFunc_extern Tryz.prog 118 _ (ReflectliteValue.methodAny (ReflectliteValue.valueError "reflectlite.Value.Type" 0) (fun t _ _ _=>ReflectliteType.toType t)) Tryz.func118 (by kernel_rfl) (by kernel_rfl) (by kernel_rfl) (by kernel_rfl)
 have h8:= @run_callFunc_extern Tryz.prog 119 _ (ReflectliteValue.method (ReflectliteValue.valueError "reflectlite.Value.IsNil" 0) ReflectliteValue.isNil) Tryz.func119 (by kernel_rfl) (by kernel_rfl) (by kernel_rfl) (by kernel_rfl)
 have h27:= @run_callFunc_extern Tryz.prog 227 _ (ReflectliteType.abiMethod fun t=>do pure (.int .u8 (←Rtype.kind t))) Tryz.func227 (by kernel_rfl) (by kernel_rfl) (by kernel_rfl) (by kernel_rfl)
 have h37:= @run_callFunc_extern Tryz.prog 247 _ (ReflectliteType.method ReflectliteType.elem) Tryz.func247 (by kernel_rfl) (by kernel_rfl) (by kernel_rfl) (by kernel_rfl)
 have h38:= @run_callFunc_extern Tryz.prog 248 _ (ReflectliteType.relation "Implements" ReflectliteType.implements_) Tryz.func248 (by kernel_rfl) (by kernel_rfl) (by kernel_rfl) (by kernel_rfl)
 have h10:= @run_callFunc_extern Tryz.prog 121 _ ReflectliteType.typeOf Tryz.func121 (by kernel_rfl) (by kernel_rfl) (by kernel_rfl) (by kernel_rfl)
 have h35:= @run_callFunc_extern Tryz.prog 245 _ (ReflectliteType.relation "AssignableTo" ReflectliteType.assignableTo) Tryz.func245 (by kernel_rfl) (by kernel_rfl) (by kernel_rfl) (by kernel_rfl)
 have h11:= @run_callFunc_extern Tryz.prog 155 _ (ReflectliteValue.method (ReflectliteValue.valueError "reflectlite.Value.Elem" 0) ReflectliteValue.elem) Tryz.func155 (by kernel_rfl) (by kernel_rfl) (by kernel_rfl) (by kernel_rfl)
 have h12:= @run_callFunc_extern Tryz.prog 156 _ ReflectliteValue.set Tryz.func156 (by kernel_rfl) (by kernel_rfl) (by kernel_rfl) (by kernel_rfl)
 have tO:=typeOfW
 have mA:=methodAssignableTo
 have a25:=assignW
 have v25:=valueOfW
 have f6:=valueOfP
 have f7:=typeP
 have mK:=methodKind
 have mE:=methodElem
 have mI:=methodImplements
 have k27:=kindP
 have k25:=kindW
 have e27:=elemP
 have i25:=implementsW
 have hlt:g < w.heap.size:=by
  rcases Nat.lt_or_ge g w.heap.size with h | h
  ·exact h
  ·simp[Array.getElem?_eq_none h] at ht
 have hgg:7 < w.heap.size:=by
  rcases Nat.lt_or_ge 7 w.heap.size with h | h
  ·exact h
  ·simp[World.cell?,Array.getElem?_eq_none h] at hg
 have hg2:((w.alloc (.cells #[.pointer (some ⟨g,0,none⟩)] 287)).alloc (.cells #[.pointer (some ⟨19,287,none⟩),.pointer (some ⟨w.heap.size,0,none⟩),.int .u64 150] 209)).cell? ⟨7,0,none⟩=some (.iface 263 (.agg #[.pointer (some ⟨19,98,none⟩)])):=by
  rw[World.cell?_alloc_lt _ _ ⟨7,0,none⟩ (by simp;omega),World.cell?_alloc_lt _ _ ⟨7,0,none⟩ hgg];exact hg
 have n8:=isNil ⟨w.heap.size,0,none⟩ ⟨g,0,none⟩ ((w.alloc (.cells #[.pointer (some ⟨g,0,none⟩)] 287)).alloc (.cells #[.pointer (some ⟨19,287,none⟩),.pointer (some ⟨w.heap.size,0,none⟩),.int .u64 150] 209)) (by simp)
 have el:=elemV ⟨w.heap.size,0,none⟩ ⟨g,0,none⟩ (((w.alloc (.cells #[.pointer (some ⟨g,0,none⟩)] 287)).alloc (.cells #[.pointer (some ⟨19,287,none⟩),.pointer (some ⟨w.heap.size,0,none⟩),.int .u64 150] 209)).alloc (.cells #[.pointer (some ⟨19,287,none⟩),.pointer (some ⟨w.heap.size,0,none⟩),.int .u64 150] 209)) (by rw[World.cell?_alloc_lt _ _ ⟨w.heap.size,0,none⟩ (by simp;omega)];simp)
 have st:=setW g (w.heap.size+1+1+1) old0 old1 x y (0,0) ((((w.alloc (.cells #[.pointer (some ⟨g,0,none⟩)] 287)).alloc (.cells #[.pointer (some ⟨19,287,none⟩),.pointer (some ⟨w.heap.size,0,none⟩),.int .u64 150] 209)).alloc (.cells #[.pointer (some ⟨19,287,none⟩),.pointer (some ⟨w.heap.size,0,none⟩),.int .u64 150] 209)).alloc (.cells #[x,y] 233)) hx hy (by have:=World.alloc_heap_new (((w.alloc (.cells #[.pointer (some ⟨g,0,none⟩)] 287)).alloc (.cells #[.pointer (some ⟨19,287,none⟩),.pointer (some ⟨w.heap.size,0,none⟩),.int .u64 150] 209)).alloc (.cells #[.pointer (some ⟨19,287,none⟩),.pointer (some ⟨w.heap.size,0,none⟩),.int .u64 150] 209)) (.cells #[x,y] 233);simpa using this) (by rw[Below.heap_alloc _ _ _ (by simp;omega),Below.heap_alloc _ _ _ (by simp;omega),Below.heap_alloc _ _ _ (by simp;omega),Below.heap_alloc _ _ _ hlt];exact ht)
 go_enter Tryz.func85,Tryz.ntmps85
 go_wp2
 refine wp_loop_rounds 1 ?_
 rw[rounds_succ]
 go_wp2
 go_ret
 refine⟨rfl,?_,?_⟩
 ·exact below_setRow ((((((Below.refl g w).alloc (by omega) _).alloc (by simp;omega) _).alloc (by simp;omega) _).alloc (by simp;omega) _)) (Nat.le_refl _) _
 ·refine setRow_heap _ g #[old0,old1] _ _ _ ?_
  rw[Below.heap_alloc _ _ _ (by simp;omega),Below.heap_alloc _ _ _ (by simp;omega),Below.heap_alloc _ _ _ (by simp;omega),Below.heap_alloc _ _ _ hlt];exact ht
end Go.Proofs.YtknelogmocedeaaGreatDoor.AsPrim
namespace Go.Proofs.YtknelogmocedeaaGreatDoor.IsPrim
open Go.RowKit Go.Extern.Stop Go.Stop Go.Extern
theorem isTypeOf(v:Value)(w:World):(Extern.ReflectliteType.typeOf #[.iface 348 v]).run Tryz.prog w=.ok (.iface 263 (.agg #[.pointer (some ⟨19,348,none⟩)])) w:=by kernel_rfl
def cmpEntry:Array Value→Sem Value:=Extern.ReflectliteType.method fun t=>do Rtype.noPackHeld "Comparable" t;pure (.bool (←typeInfo t).comparable)
theorem isComparable(w:World):(cmpEntry #[.agg #[.pointer (some ⟨19,348,none⟩)]]).run Tryz.prog w=.ok (.bool true) w:=by kernel_rfl
theorem isMethodComparable(v:Value)(w:World):(Go.method 477 263 v "Comparable").run Tryz.prog w=.ok (246,v) w:=by kernel_rfl
theorem isComp:(Tryz.prog.info? 348).map (·.comparable)=some true:=by kernel_rfl
theorem isSize:(Tryz.prog.info? 366).map (·.size)=some 1:=by kernel_rfl
theorem noIsE(v:Value)(xT:TypeId)(w:World):(Instr.typeAssert (.iface 348 v) xT 274 true).run Tryz.prog w=.ok (.tuple #[.nilIface,.bool false]) w:=run_typeAssert_lacksB Tryz.underlying274 (by kernel_rfl) (by kernel_rfl) v xT w
theorem noUnwrapE(v:Value)(xT:TypeId)(w:World):(Instr.typeAssert (.iface 348 v) xT 270 true).run Tryz.prog w=.ok (.tuple #[.nilIface,.bool false]) w:=run_typeAssert_lacksB Tryz.underlying270 (by kernel_rfl) (by kernel_rfl) v xT w
theorem noUnwrapsE(v:Value)(xT:TypeId)(w:World):(Instr.typeAssert (.iface 348 v) xT 271 true).run Tryz.prog w=.ok (.tuple #[.nilIface,.bool false]) w:=run_typeAssert_lacksB Tryz.underlying271 (by kernel_rfl) (by kernel_rfl) v xT w
theorem noIsW(v:Value)(xT:TypeId)(w:World):(Instr.typeAssert (.iface 233 v) xT 274 true).run Tryz.prog w=.ok (.tuple #[.nilIface,.bool false]) w:=run_typeAssert_lacksB Tryz.underlying274 (by kernel_rfl) (by kernel_rfl) v xT w
theorem hasUnwrapW(v:Value)(xT:TypeId)(w:World):(Instr.typeAssert (.iface 233 v) xT 270 true).run Tryz.prog w=.ok (.tuple #[.iface 233 v,.bool true]) w:=run_typeAssert_hasB Tryz.underlying270 (by kernel_rfl) v xT w
theorem methodUnwrap(v:Value)(w:World):(Go.method 477 233 v "Unwrap").run Tryz.prog w=.ok (243,v) w:=by kernel_rfl
set_option maxRecDepth 100000 in
set_option maxHeartbeats 4000000 in
theorem is_same(x:Value)(b:Addr)(w:World):
  Calls Tryz.prog 86 #[.iface 233 (.agg #[x,.iface 348 (.pointer (some b))]),.iface 348 (.pointer (some b))] w fun e w'=>e=.returned (.bool true)∧w.alloc (.cells #[x,.iface 348 (.pointer (some b))] 233)=w':=by
 obtain⟨i,hi,hcmp⟩:=Option.map_eq_some_iff.1 isComp
 obtain⟨j,hj,hjs⟩:=Option.map_eq_some_iff.1 isSize
 have h8:= @run_callFunc_extern Tryz.prog 121 _ Extern.ReflectliteType.typeOf Tryz.func121 (by kernel_rfl) (by kernel_rfl) (by kernel_rfl) (by kernel_rfl)
 have h32:= @run_callFunc_extern Tryz.prog 246 _ cmpEntry Tryz.func246 (by kernel_rfl) (by kernel_rfl) (by kernel_rfl) (by kernel_rfl)
 have tT:=isTypeOf
 have cT:=isComparable
 have mR:=isMethodComparable
 have nE:=noIsE
 have uE:=noUnwrapE
 have vE:=noUnwrapsE
 have nW:=noIsW
 have uW:=hasUnwrapW
 have mU:=methodUnwrap
 have heq:=run_eql_iface_ptr_same (P:=Tryz.prog) (w.alloc (.cells #[x,.iface 348 (.pointer (some b))] 233)) b Tryz.underlying98 Tryz.underlying348 hi hcmp hj
 have hty:=run_eql_iface_types (P:=Tryz.prog) 233 348 (.agg #[x,.iface 348 (.pointer (some b))]) (.pointer (some b)) Tryz.underlying98 (by decide) w
 clear hi hcmp hj hjs
 go_enter Tryz.func86,Tryz.ntmps86
 go_wp2
 refine wp_loop_rounds 2 ?_
 rw[rounds_succ]
 go_wp2
 rw[rounds_succ]
 go_wp2
 go_ret
 exact⟨rfl,rfl⟩
set_option maxRecDepth 100000 in
set_option maxHeartbeats 4000000 in
theorem is_other(x:Value)(a b:Addr)(ca cb:Array Value)(ta tb:TypeId)(w:World)(hne:a≠b)(ha:w.heap[a.block]? =some (.cells ca ta (0,0)))(hb:w.heap[b.block]? =some (.cells cb tb (0,0))):
  Calls Tryz.prog 86 #[.iface 233 (.agg #[x,.iface 348 (.pointer (some a))]),.iface 348 (.pointer (some b))] w fun e w'=>e=.returned (.bool false)∧w.alloc (.cells #[x,.iface 348 (.pointer (some a))] 233)=w':=by
 obtain⟨i,hi,hcmp⟩:=Option.map_eq_some_iff.1 isComp
 obtain⟨j,hj,hjs⟩:=Option.map_eq_some_iff.1 isSize
 have h8:= @run_callFunc_extern Tryz.prog 121 _ Extern.ReflectliteType.typeOf Tryz.func121 (by kernel_rfl) (by kernel_rfl) (by kernel_rfl) (by kernel_rfl)
 have h32:= @run_callFunc_extern Tryz.prog 246 _ cmpEntry Tryz.func246 (by kernel_rfl) (by kernel_rfl) (by kernel_rfl) (by kernel_rfl)
 have tT:=isTypeOf
 have cT:=isComparable
 have mR:=isMethodComparable
 have nE:=noIsE
 have uE:=noUnwrapE
 have vE:=noUnwrapsE
 have nW:=noIsW
 have uW:=hasUnwrapW
 have mU:=methodUnwrap
 have heq:=run_eql_iface_ptr_other (P:=Tryz.prog) (w.alloc (.cells #[x,.iface 348 (.pointer (some a))] 233)) Tryz.underlying98 Tryz.underlying348 hi hcmp hj (by rw[hjs];decide) hne
  (by rw[show(w.alloc (.cells #[x,.iface 348 (.pointer (some a))] 233)).heap[a.block]? =w.heap[a.block]? from by show(w.heap.push _)[a.block]? =_;rw[Array.getElem?_push,if_neg (by have:=(Array.getElem?_eq_some_iff.1 ha).1;omega)]];exact ha)
  (by rw[show(w.alloc (.cells #[x,.iface 348 (.pointer (some a))] 233)).heap[b.block]? =w.heap[b.block]? from by show(w.heap.push _)[b.block]? =_;rw[Array.getElem?_push,if_neg (by have:=(Array.getElem?_eq_some_iff.1 hb).1;omega)]];exact hb)
 have hty:=run_eql_iface_types (P:=Tryz.prog) 233 348 (.agg #[x,.iface 348 (.pointer (some a))]) (.pointer (some b)) Tryz.underlying98 (by decide) w
 clear hi hcmp hj hjs ha hb hne
 go_enter Tryz.func86,Tryz.ntmps86
 go_wp2
 refine wp_loop_rounds 2 ?_
 rw[rounds_succ]
 go_wp2
 rw[rounds_succ]
 go_wp2
 go_ret
 exact⟨rfl,rfl⟩
end Go.Proofs.YtknelogmocedeaaGreatDoor.IsPrim
namespace Go.Proofs.YtknelogmocedeaaGreatDoor.ToldPrim
open Go.RowKit
theorem told_nil(w:World):Calls Tryz.prog 137 #[.nilIface] w fun e w'=>e=.returned (.int .i64 0)∧Below w.heap.size w w':=by
 go_enter Tryz.func137,Tryz.ntmps137
 go_wp2
 go_ret
 exact⟨rfl,(Below.refl _ _).alloc (Nat.le_refl _) _⟩
set_option maxHeartbeats 1000000 in
theorem told_bool(s:ByteArray)(w:World)(p:Nat→Addr)(h:Globs w p):
  Calls Tryz.prog 137 #[.iface 233 (.agg #[.string s,.iface 348 (.pointer (some (p 8)))])] w fun e w'=>e=.returned (.int .i64 31)∧Below w.heap.size w w':=by
 go_enter Tryz.func137,Tryz.ntmps137
 go_wp2_with fail
 have h1:Below w.heap.size w (w.alloc (.cells #[.string ⟨#[]⟩,.nilIface] 233)):=(Below.refl _ _).alloc (Nat.le_refl _) _
 refine(AsPrim.as_hit w.heap.size (.string ⟨#[]⟩) .nilIface (.string s) (.iface 348 (.pointer (some (p 8)))) _ rfl rfl (h.below h1).et (World.alloc_heap_new w _)).mono ?_
 rintro e w0 ⟨rfl,hb,hc⟩
 have H0:=Aside.mk (h1.trans hb)
 have h0:=h.below H0.out
 have c0:=cel hc 0 (v:=.string s) rfl
 have c1:=cel hc 1 (v:=.iface 348 (.pointer (some (p 8)))) rfl
 clear h h1 hb hc
 have k0:=h0.cell 8 (by decide)
 go_wp2_with fail
 refine((IsPrim.is_same _ _ _).mono fun _ _ h=>⟨h.1,h.2 ▸ (Below.refl _ _).alloc (Nat.le_refl _) _⟩:Calls _ _ _ _ fun e w'=>e=_∧Below _ _ w').mono ?_
 rintro e w1 ⟨rfl,hb⟩
 have H1:=Aside.mk (below_then H0.out hb)
 clear k0 hb
 go_wp2
 go_ret
 exact⟨rfl,H1.out⟩
set_option maxHeartbeats 1000000 in
theorem told_number(s:ByteArray)(w:World)(p:Nat→Addr)(h:Globs w p):
  Calls Tryz.prog 137 #[.iface 233 (.agg #[.string s,.iface 348 (.pointer (some (p 10)))])] w fun e w'=>e=.returned (.int .i64 30)∧Below w.heap.size w w':=by
 go_enter Tryz.func137,Tryz.ntmps137
 go_wp2_with fail
 have h1:Below w.heap.size w (w.alloc (.cells #[.string ⟨#[]⟩,.nilIface] 233)):=(Below.refl _ _).alloc (Nat.le_refl _) _
 refine(AsPrim.as_hit w.heap.size (.string ⟨#[]⟩) .nilIface (.string s) (.iface 348 (.pointer (some (p 10)))) _ rfl rfl (h.below h1).et (World.alloc_heap_new w _)).mono ?_
 rintro e w0 ⟨rfl,hb,hc⟩
 have H0:=Aside.mk (h1.trans hb)
 have h0:=h.below H0.out
 have c0:=cel hc 0 (v:=.string s) rfl
 have c1:=cel hc 1 (v:=.iface 348 (.pointer (some (p 10)))) rfl
 clear h h1 hb hc
 have k0:=h0.cell 8 (by decide)
 obtain⟨ca,ta,g1⟩:=h0.blk 10 (by decide)
 obtain⟨cb,tb,g2⟩:=h0.blk 8 (by decide)
 have G:=Aside.mk (And.intro (h0.inj 10 8 (by decide) (by decide) (by decide)) (And.intro g1 g2))
 clear g1 g2
 go_wp2_with fail
 refine((IsPrim.is_other _ _ _ _ _ _ _ _ G.out.1 G.out.2.1 G.out.2.2).mono fun _ _ h=>⟨h.1,h.2 ▸ (Below.refl _ _).alloc (Nat.le_refl _) _⟩:Calls _ _ _ _ fun e w'=>e=_∧Below _ _ w').mono ?_
 rintro e w1 ⟨rfl,hb⟩
 have H1:=Aside.mk (below_then H0.out hb)
 clear k0 hb
 go_wp2
 go_ret
 exact⟨rfl,H1.out⟩
end Go.Proofs.YtknelogmocedeaaGreatDoor.ToldPrim
namespace Go.Proofs.YtknelogmocedeaaGreatDoor.Pr
open Go.RowKit Go.Lib
open Fl (bl bt' bl_bt bl_of size_bl)
open Fi (one_arg byteV_len byteV_bytes)
set_option linter.unusedVariables false
variable {X : En} (p : Nat → Addr)
def boolV:V:=sen p 8
def numV:V:=sen p 10
def prErr(s:ByteArray)(e:V):V:=.ifc 233 (.agg [.str s,e])
theorem told_nil_fn:Fn Tryz.prog X 137 [.v .nili] (.v (.int .i64 0)):=
 Fn.of_plain (enter_of (by kernel_rfl)) rfl fun w L vs hE ha=>by
  obtain⟨v,rfl,h⟩:=one_arg ha
  rw[show v=.nilIface from h]
  exact ToldPrim.told_nil w
theorem told_any(s:ByteArray)(g:Nat)(code:Int)(hc:∀w:World,Globs w p→Calls Tryz.prog 137 #[.iface 233 (.agg #[.string s,.iface 348 (.pointer (some (p g)))])] w fun e w'=>e=.returned (.int .i64 code)∧Below w.heap.size w w'):Fn Tryz.prog (envX p) 137 [.v (prErr s (sen p g))] (.v (.int .i64 code)):=
 Fn.of_plain (enter_of (by kernel_rfl)) rfl fun w L vs hE ha=>by
  obtain⟨v,rfl,h⟩:=one_arg ha
  obtain⟨u,rfl,cs,rfl,h1⟩:=h
  obtain⟨u,us,h2,_,h3,u',us',h4,_,⟨u2,h5,h7⟩,h6⟩:=h1
  have:cs=#[.string s,.iface 348 (.pointer (some (p g)))]:=by
   rw[h4,show us'=[] from h6,show u=_ from h3,h5,show u2=_ from h7] at h2
   exact Array.toList_inj.1 h2
  rw[this]
  exact hc w hE.gl
theorem told_bool_fn(s:ByteArray):Fn Tryz.prog (envX p) 137 [.v (prErr s (boolV p))] (.v (.int .i64 31)):=told_any p s _ 31 fun w h=>ToldPrim.told_bool s w p h
theorem told_number_fn(s:ByteArray):Fn Tryz.prog (envX p) 137 [.v (prErr s (numV p))] (.v (.int .i64 30)):=told_any p s _ 30 fun w h=>ToldPrim.told_number s w p h
def boolB(b:Bool):ByteArray:=if b=true then bt' [255] else bt' [0]
theorem bool_fn(b:Bool):Fn Tryz.prog X 58 [.v (.bool b)] (.v (.str (boolB b))):=by
 cases b
 all_goals
  refine fn_prog tabOk mixed Tryz.f58 Tryz.func58 (by kernel_rfl) (by kernel_rfl) ?_
  conv=>whnf
  exact⟨.inl rfl,rfl⟩
def readB(s:ByteArray):Option Bool:=match bl s with
 | [b]=>some (decide (b≠0))
 | _=>none
def readBT(s:ByteArray):T:=match readB s with
 | some b=>.tup [.v (.bool b),.v (.int .i64 0)]
 | none=>.tup [.v (.bool false),.v (.int .i64 31)]
theorem readBool_fn(s:ByteArray):Fn Tryz.prog (envX p) 98 [.v (.str s)] (readBT s):=by
 have hl:=size_bl s
 by_cases h1:s.size=1
 ·obtain⟨b,hb⟩:∃b,bl s=[b]:=List.length_eq_one_iff.1 (by omega)
  have hr:readBT s=.tup [.v (.bool (decide (b≠0))),.v (.int .i64 0)]:=by unfold readBT readB;rw[hb]
  rw[hr]
  refine fn_prog tabOk mixed Tryz.f98 Tryz.func98 (by kernel_rfl) (by kernel_rfl) ?_
  conv=>whnf
  refine⟨rfl,cmp_false (by omega) ?_⟩
  conv=>whnf
  refine⟨b,by omega,by rw[show s.data.toList=[b] from hb];rfl,?_⟩
  conv=>whnf
  refine⟨rfl,cmp_split (fun h=>?_) (fun h=>?_)⟩
  ·conv=>whnf
   exact⟨⟨.inl (congrArg V.bool (by rw[eq_comm,decide_eq_true_iff];intro e;exact h (by rw[e];rfl))),.inl rfl,trivial⟩,rfl⟩
  ·conv=>whnf
   exact⟨⟨.inl (congrArg V.bool (by rw[eq_comm,decide_eq_false_iff_not];intro e;exact h (fun e2=>e (UInt8.toNat_inj.1 (by rw[show b.toNat=0 by omega];rfl))))),.inl rfl,trivial⟩,rfl⟩
 ·have hr:readBT s=.tup [.v (.bool false),.v (.int .i64 31)]:=by
   unfold readBT readB
   split
   ·rename_i h2
    split at h2
    ·rename_i h3;rw[h3] at hl;exact absurd hl.symm h1
    ·cases h2
   ·rfl
  rw[hr]
  refine fn_prog tabOk mixed Tryz.f98 Tryz.func98 (by kernel_rfl) (by kernel_rfl) ?_
  conv=>whnf
  refine⟨rfl,cmp_true (by omega) ?_⟩
  conv=>whnf
  refine⟨boolV p,⟨by decide,rfl⟩,?_⟩
  conv=>whnf
  (refine st_call (told_bool_fn p s) ?_ rfl rfl ?_;(focus ((repeat' first|exact trivial|exact rfl|exact .inl rfl|exact .inr ⟨rfl,rfl⟩|refine And.intro ?_ ?_);done));conv=>whnf)
  exact⟨⟨.inl rfl,.inl rfl,trivial⟩,rfl⟩
theorem half_in(w:Nat)(hw:1≤w∧w≤4):128≤half w∧half w≤2147483648:=by
 rcases show w=1∨w=2∨w=3∨w=4 by omega with rfl | rfl | rfl | rfl <;> decide
theorem st_half(w:Nat)(hw:1≤w∧w≤4){K:Int→Prop}(h:K (half w)):(0:Int)≤((8*w - 1:Nat):Int)∧∃n,IntKind.i64.wrap (1*2 ^ (min (((8*w - 1:Nat):Int).toNat) IntKind.i64.bits))=n∧K n:=by
 refine⟨by omega,half w,?_,h⟩
 rcases show w=1∨w=2∨w=3∨w=4 by omega with rfl | rfl | rfl | rfl <;> decide
theorem has_fn(w:Nat)(hw:1≤w∧w≤4)(n:Int):Fn Tryz.prog X 170 [.v (.agg [.int .i64 (w:Nat)]),.v (.int .i64 n)] (.v (.bool (fitsB w n))):=by
 obtain⟨h1,h2⟩:=half_in w hw
 refine fn_prog tabOk mixed Tryz.f170 Tryz.func170 (by kernel_rfl) (by kernel_rfl) ?_
 conv=>whnf
 refine st_times 8 w (by omega) ?_
 conv=>whnf
 refine st_minus (8*w) 1 (by omega) (by omega) ?_
 conv=>whnf
 refine st_half w hw ?_
 conv=>whnf
 refine⟨_,wrap64 (by omega) (by omega),?_⟩
 conv=>whnf
 refine⟨rfl,cmp_split (fun h=>?_) (fun h=>?_)⟩
 ·conv=>whnf
  refine⟨rfl,cmp_split (fun h'=>?_) (fun h'=>?_)⟩
  ·conv=>whnf
   exact⟨.inl (congrArg V.bool ((fits_iff w n).2 ⟨by omega,h'⟩).symm),rfl⟩
  ·conv=>whnf
   exact⟨.inl (congrArg V.bool (Bool.eq_false_iff.2 fun e=>h' ((fits_iff w n).1 e).2).symm),rfl⟩
 ·conv=>whnf
  exact⟨.inl (congrArg V.bool (Bool.eq_false_iff.2 fun e=>h (by have:=((fits_iff w n).1 e).1;omega)).symm),rfl⟩
def leastT(n:Int):T:=match leastW n with
 | some w=>.tup [.v (.agg [.int .i64 (w:Nat),.int .i64 n]),.v .nili]
 | none=>.tup [.v (.agg [.int .i64 0,.int .i64 0]),.v (prErr ⟨#[]⟩ (numV p))]
theorem leastF_at(n:Int)(k:Nat)(hk:k≤4)(h:∀j,j < k→fitsB (j+1) n=false):leastW n=leastF (4 - k) (k+1) n:=by
 have h0:=fun hk0:0 < k=>h 0 hk0
 have h1:=fun hk1:1 < k=>h 1 hk1
 have h2:=fun hk2:2 < k=>h 2 hk2
 have h3:=fun hk3:3 < k=>h 3 hk3
 rcases show k=0∨k=1∨k=2∨k=3∨k=4 by omega with rfl | rfl | rfl | rfl | rfl
 ·rfl
 ·simp only[leastW,leastF,h0 (by omega)];simp
 ·simp only[leastW,leastF,h0 (by omega),h1 (by omega)];simp
 ·simp only[leastW,leastF,h0 (by omega),h1 (by omega),h2 (by omega)];simp
 ·simp only[leastW,leastF,h0 (by omega),h1 (by omega),h2 (by omega),h3 (by omega)];simp;rfl
theorem least_fn(n:Int):Fn Tryz.prog (envX p) 139 [.v (.int .i64 n)] (leastT p n):=by
 refine fn_prog tabOk mixed Tryz.f139 Tryz.func139 (by kernel_rfl) (by kernel_rfl) ?_
 conv=>whnf
 refine⟨Nat,fun k=>⟨23,[(0,.v (.int .i64 n)),(2,.ptr 2 0),(6,.v (.int .i64 (k:Nat)))],[(2,[.v (.int .i64 0),.v (.int .i64 0)])],[]⟩,fun k=>k≤4∧∀j,j < k→fitsB (j+1) n=false,fun k=>4 - k,⟨0,[],⟨by omega,fun j h=>by omega⟩,?_⟩,fun k ⟨hk,hf⟩=>?_⟩
 ·(focus ((repeat' first|exact trivial|exact rfl|exact .inl rfl|exact .inr ⟨rfl,rfl⟩|refine And.intro ?_ ?_);done))
 have hl:=leastF_at n k hk hf
 conv=>whnf
 refine⟨rfl,cmp_split (fun h=>?_) (fun h=>?_)⟩
 ·have hk4:k < 4:=by omega
  rw[show 4 - k=(3 - k)+1 by omega,leastF] at hl
  conv=>whnf
  refine⟨rfl,st_succ (by omega) ?_⟩
  conv=>whnf
  refine st_callB (has_fn (k+1) (by omega) n) ⟨.inl rfl,.inl rfl,trivial⟩ rfl (fun hT=>?_) (fun hT=>?_)
  ·rw[if_pos hT] at hl
   conv=>whnf
   unfold leastT
   rw[hl]
   exact⟨⟨.inl rfl,.inl rfl,trivial⟩,rfl⟩
  ·conv=>whnf
   refine⟨rfl,st_succ (by omega) ?_⟩
   conv=>whnf
   refine⟨k+1,[],⟨by omega,fun j hj=>?_⟩,by dsimp only;omega,?_⟩
   ·rcases show j < k∨j=k by omega with h | rfl
    ·exact hf j h
    ·exact hT
   ·(focus ((repeat' first|exact trivial|exact rfl|exact .inl rfl|exact .inr ⟨rfl,rfl⟩|refine And.intro ?_ ?_);done))
 ·have hk4:k=4:=by omega
  subst hk4
  conv=>whnf
  refine⟨some [0,1001,2,3,4,5],by kernel_rfl,?_⟩;conv=>whnf
  refine⟨⟨numV p,⟨by decide,rfl⟩⟩,?_⟩
  conv=>whnf
  refine⟨numV p,⟨by decide,rfl⟩,?_⟩
  conv=>whnf
  unfold leastT
  rw[show leastW n=none from hl]
  exact⟨⟨.inl rfl,.inl rfl,trivial⟩,rfl⟩
def intT(n:Int):T:=match leastW n with
 | some w=>.tup [.v (.str (bt' (intL w n))),.v (.int .i64 0)]
 | none=>.tup [.v (.str (bt' [])),.v (.int .i64 30)]
theorem bytes_fn(w:Nat)(n:Int):Fn Tryz.prog X 140 [.v (.agg [.int .i64 (w:Nat),.int .i64 n])] (.fn 171 [.ro [.int .i64 (w:Nat),.int .i64 n]]):=by
 refine fnP_prog tabOk mixed Tryz.f140 Tryz.func140 (by kernel_rfl) (by kernel_rfl) (by kernel_rfl) ?_
 conv=>whnf
 exact⟨rfl,⟨_,rfl,rfl⟩,trivial⟩
theorem intL_get(n:Int):∀(w i:Nat),i < w→(intL w n)[i]? =some (UInt8.ofNat ((n.fdiv (2 ^ (8*(w - 1 - i)))) % 256).toNat)
 | 0,i,h=>by omega
 | w+1,0,h=>by rw[intL];rfl
 | w+1,i+1,h=>by rw[intL,List.getElem?_cons_succ,intL_get n w i (by omega),show w - 1 - i=w+1 - 1 - (i+1) by omega]
theorem bytes_it(w:Nat)(hw:1≤w∧w≤4)(n:Int):It Tryz.prog X 171 [.ro [.int .i64 (w:Nat),.int .i64 n]] ((intL w n).map byteV):=by
 refine it_prog tabOk mixed Tryz.f171 Tryz.func171 (by kernel_rfl) (by kernel_rfl) (by kernel_rfl) fun k cvs hE hL0 hcv=>⟨_,hcv,rfl,by kernel_rfl,?_⟩
 have hyl:((intL w n).map byteV).length=w:=by rw[List.length_map,intL_len]
 conv=>whnf
 refine⟨rfl,(w:Int) - 1,wrap64 (by omega) (by omega),?_⟩
 conv=>whnf
 refine⟨[],trivial,rfl,Nat,fun j=>⟨21,[(0,.v (.raw (.func (.yield k.l0) #[] #[]))),(1,.ro [.int .i64 (w:Nat),.int .i64 n]),(3,.v (.int .i64 (((j:Nat):Int) - 1)))],[],[]⟩,fun j=>some (w - j),fun j=>j≤w,fun j=>j,⟨w,[],Nat.le_refl _,by simp,?_⟩,fun j hj=>?_⟩
 ·(focus ((repeat' first|exact trivial|exact rfl|exact .inl rfl|exact .inr ⟨rfl,rfl⟩|refine And.intro ?_ ?_);done))
 conv=>whnf
 refine⟨rfl,cmp_split (fun h=>?_) (fun h=>?_)⟩
 ·have hj1:1≤j:=by omega
  have e1:(8:Int)*((j:Int) - 1)=((8*(j - 1):Nat):Int):=by omega
  conv=>whnf
  refine⟨rfl,((8*(j - 1):Nat):Int),(by rw[e1];exact wrap64 (by omega) (by omega)),?_⟩
  conv=>whnf
  refine⟨by omega,n.fdiv (2 ^ (8*(j - 1))),(by rw[Int.toNat_natCast,Nat.min_eq_left (by show 8*(j - 1)≤64;omega)]),?_⟩
  conv=>whnf
  refine⟨_,(u8_of (n.fdiv (2 ^ (8*(j - 1))))).symm,?_⟩
  conv=>whnf
  refine⟨12,_,_,[],_,rfl,rfl,rfl,?_,.inr ⟨rfl,rfl,rfl⟩,?_,?_⟩
  ·rw[List.getElem?_map,intL_get n w (w - j) (by omega),show w - 1 - (w - j)=j - 1 by omega];rfl
  ·conv=>whnf
   refine⟨rfl,((j - 1:Nat):Int) - 1,(by rw[show((j:Int) - 1 - 1)=((j - 1:Nat):Int) - 1 by omega];exact wrap64 (by omega) (by omega)),?_⟩
   conv=>whnf
   refine⟨j - 1,[],by dsimp only;omega,by dsimp only;congr 1;omega,by dsimp only;omega,?_⟩
   (focus ((repeat' first|exact trivial|exact rfl|exact .inl rfl|exact .inr ⟨rfl,rfl⟩|refine And.intro ?_ ?_);done))
  ·conv=>whnf
   exact .inr rfl
 ·conv=>whnf
  have:j=0:=by omega
  subst this
  exact .inl (by rw[hyl];rfl)
theorem int_fn(n:Int):Fn Tryz.prog (envX p) 101 [.v (.int .i64 n)] (intT n):=by
 have hl:=least_fn p n
 unfold leastT at hl
 unfold intT
 cases hw:leastW n with
 | none=>
  rw[hw] at hl
  refine fn_prog tabOk mixed Tryz.f101 Tryz.func101 (by kernel_rfl) (by kernel_rfl) ?_
  conv=>whnf
  (refine st_call hl ?_ rfl rfl ?_;(focus ((repeat' first|exact trivial|exact rfl|exact .inl rfl|exact .inr ⟨rfl,rfl⟩|refine And.intro ?_ ?_);done));conv=>whnf)
  (refine st_call (told_number_fn p ⟨#[]⟩) ?_ rfl rfl ?_;(focus ((repeat' first|exact trivial|exact rfl|exact .inl rfl|exact .inr ⟨rfl,rfl⟩|refine And.intro ?_ ?_);done));conv=>whnf)
  exact⟨⟨.inl rfl,.inl rfl,trivial⟩,rfl⟩
 | some w=>
  rw[hw] at hl
  obtain⟨w1,w2,_⟩:=least_some hw
  have hyl:((intL w n).map byteV).length=w:=by rw[List.length_map,intL_len]
  refine fn_prog tabOk mixed Tryz.f101 Tryz.func101 (by kernel_rfl) (by kernel_rfl) ?_
  conv=>whnf
  (refine st_call hl ?_ rfl rfl ?_;(focus ((repeat' first|exact trivial|exact rfl|exact .inl rfl|exact .inr ⟨rfl,rfl⟩|refine And.intro ?_ ?_);done));conv=>whnf)
  (refine st_call (bytes_fn w n) ?_ rfl rfl ?_;(focus ((repeat' first|exact trivial|exact rfl|exact .inl rfl|exact .inr ⟨rfl,rfl⟩|refine And.intro ?_ ?_);done));conv=>whnf)
  refine⟨_,_,fun j=>⟨31,[(6,.ptr 6 0)],[(6,[.own 23 5 (((intL w n).take j).map byteV)])],[(23,some 5)]⟩,fun j=>j≤w,bytes_it w ⟨w1,w2⟩ n,⟨rfl,trivial⟩,rfl,⟨Nat.zero_le _,[(23,none)],?_⟩,fun j=>rfl,(show ∀p∈[19],p < 31 by decide),fun j v hv hj=>?_,fun hj=>?_⟩
  ·(focus ((repeat' first|exact trivial|exact rfl|exact .inl rfl|exact .inr ⟨rfl,rfl⟩|refine And.intro ?_ ?_);done))
  ·rw[List.getElem?_map] at hv
   obtain⟨b,hb,rfl⟩:=Option.map_eq_some_iff.1 hv
   obtain⟨hil,hb⟩:=List.getElem?_eq_some_iff.1 hb
   have hil':=hil
   rw[intL_len] at hil'
   refine⟨rfl,?_⟩
   conv=>whnf
   refine st_app (by simp;omega) (by intro c hc;simp at hc;rw[hc];rfl) (show _=((intL w n).take (j+1)).map byteV from by rw[List.take_succ_eq_append_getElem hil,hb,List.map_append];rfl) ?_
   conv=>whnf
   refine⟨by show j+1≤w;omega,[(23,some 23)],?_⟩
   (focus ((repeat' first|exact trivial|exact rfl|exact .inl rfl|exact .inr ⟨rfl,rfl⟩|refine And.intro ?_ ?_);done))
  ·have htk:(intL w n).take w=intL w n:=List.take_of_length_le (by rw[intL_len];exact Nat.le_refl _)
   conv=>whnf
   rw[hyl,htk]
   refine⟨0,w,w,rfl,(by rw[List.length_map,intL_len]),(by rw[List.length_map,intL_len]),by omega,by omega,(by rw[List.length_map,intL_len];omega),byteV_len _,(intL w n).map byteV,(by rw[List.drop_zero,List.take_of_length_le (by rw[List.length_map,intL_len];omega)]),?_⟩
   conv=>whnf
   refine⟨_,byteV_bytes _,?_⟩
   conv=>whnf
   exact⟨⟨.inl rfl,.inl rfl,trivial⟩,rfl⟩
def readT0(s:ByteArray):T:=match readI (bl s) with
 | some n=>.tup [.v (.int .i64 n),.v .nili]
 | none=>.tup [.v (.int .i64 0),.v (prErr s (numV p))]
def readT(s:ByteArray):T:=match readI (bl s) with
 | some n=>.tup [.v (.int .i64 n),.v (.int .i64 0)]
 | none=>.tup [.v (.int .i64 0),.v (.int .i64 30)]
theorem sign_wrap(b:UInt8):IntKind.i8.wrap ((b.toNat:Nat):Int)=signI b:=by
 have h:∀n:Fin 256,IntKind.i8.wrap ((n.1:Nat):Int)=if n.1 < 128 then(n.1:Int) else(n.1:Int) - 256:=by decide+kernel
 exact h ⟨b.toNat,b.toNat_lt⟩
theorem or_byte(a:Int)(b:UInt8)(h1: -9000000000≤a)(h2:a≤9000000000):bitV .or .i64 (a*256) b.toNat=a*256+b.toNat:=by
 have hb:=b.toNat_lt
 obtain⟨m,hm⟩:∃m:Nat,(a % 72057594037927936).toNat=m:=⟨_,rfl⟩
 have e1:(BitVec.ofInt 64 (a*256)).toNat=m <<< 8:=by
  rw[BitVec.toNat_ofInt,Nat.shiftLeft_eq]
  show((a*256) % 18446744073709551616).toNat=m*256
  omega
 have e2:(BitVec.ofInt 64 ((b.toNat:Nat):Int)).toNat=b.toNat:=by
  rw[BitVec.toNat_ofInt]
  show(((b.toNat:Nat):Int) % 18446744073709551616).toNat=b.toNat
  omega
 have e3:(BitVec.ofInt 64 (a*256) ||| BitVec.ofInt 64 ((b.toNat:Nat):Int)).toNat=m*256+b.toNat:=by
  rw[BitVec.toNat_or,e1,e2,←Nat.shiftLeft_add_eq_or_of_lt hb,Nat.shiftLeft_eq]
 show IntKind.i64.wrap ((BitVec.ofInt 64 (a*256) ||| BitVec.ofInt 64 ((b.toNat:Nat):Int)).toNat:Int)=_
 rw[e3,←wrap64 (a:=a*256+b.toNat) (by omega) (by omega)]
 unfold IntKind.wrap
 have e4:(((m*256+b.toNat:Nat):Int)) % (2 ^ IntKind.i64.bits)=(a*256+b.toNat) % (2 ^ IntKind.i64.bits):=by
  show(((m*256+b.toNat:Nat):Int)) % 18446744073709551616=(a*256+b.toNat) % 18446744073709551616
  omega
 rw[e4]
theorem valF_snoc:∀(l:List UInt8) (a:Int) (b:UInt8),valF a (l++[b])=valF a l*256+b.toNat
 | [],a,b=>rfl
 | x::r,a,b=>by rw[List.cons_append,valF,valF,valF_snoc r]
theorem read_none(s:ByteArray)(h:s.size=0∨4 < s.size):readI (bl s)=none:=by
 unfold readI
 rw[if_neg (by rw[size_bl];omega)]
set_option maxHeartbeats 4000000 in
theorem read_fn(s:ByteArray)(hs:s.size≤1000000000):Fn Tryz.prog (envX p) 172 [.v (.str s)] (readT0 p s):=by
 by_cases hz:s.size=0∨4 < s.size
 ·refine fn_prog tabOk mixed Tryz.f172 Tryz.func172 (by kernel_rfl) (by kernel_rfl) ?_
  conv=>whnf
  (repeat' (first | ((refine⟨rfl,cmp_false (by omega) ?_⟩) <;> (conv=>whnf)) | fail))
  refine⟨none,by kernel_rfl,?_⟩;conv=>whnf
  refine⟨numV p,⟨by decide,rfl⟩,?_⟩
  conv=>whnf
  unfold readT0
  rw[read_none s hz]
  exact⟨⟨.inl rfl,.inl rfl,trivial⟩,rfl⟩
 ·obtain⟨b,r,hbr⟩:∃b r,bl s=b::r:=by
   cases h:bl s with
   | nil=>have:=size_bl s;rw[h] at this;simp at this;omega
   | cons b r=>exact⟨b,r,rfl⟩
  have hsz:=size_bl s
  rw[hbr,List.length_cons] at hsz
  have hx:(s.extract 1 s.size).data.toList=r:=by
   have h1:(s.extract 1 s.size).data.toList=(s.data.toList.take s.size).drop 1:=by simp[ByteArray.data_extract,List.drop_take]
   rw[h1,show s.data.toList=b::r from hbr,List.take_of_length_le (by rw[List.length_cons];omega)]
   rfl
  have key:∀i,i≤r.length→ -2147483648≤valF (signI b) (r.take i)∧valF (signI b) (r.take i) < 2147483648:=fun i hi=>
   (int_val (b::r.take i) (by rw[List.length_cons,List.length_take];omega)).2
  refine fn_prog tabOk mixed Tryz.f172 Tryz.func172 (by kernel_rfl) (by kernel_rfl) ?_
  conv=>whnf
  rcases show s.size=1∨s.size=2∨s.size=3∨s.size=4 by omega with h4 | h4 | h4 | h4
  all_goals
   (repeat' (first | ((refine⟨rfl,cmp_true (by omega) ?_⟩) <;> (conv=>whnf)) | ((refine⟨rfl,cmp_false (by omega) ?_⟩) <;> (conv=>whnf)) | fail))
   refine⟨b,by omega,(by rw[show s.data.toList=b::r from hbr];rfl),?_⟩
   conv=>whnf
   refine⟨signI b,sign_wrap b,?_⟩
   conv=>whnf
   refine⟨signI b,wrap64 (by have:=sign_mod b;omega) (by have:=sign_mod b;omega),?_⟩
   conv=>whnf
   refine st_cut 1 s.size rfl rfl (by omega) (by omega) ?_
   conv=>whnf
   rw[hx]
   conv=>whnf
   refine⟨Nat,fun i=>⟨59,[(0,.v (.str s)),(4,.v (.int .i64 (valF (signI b) (r.take i)))),(23,.v (.sl (r.map byteV))),(24,.v (.int .i64 ((r.map byteV).length:Nat))),(25,.v (.int .i64 (i:Nat)))],[],[]⟩,fun i=>i≤r.length,fun i=>r.length - i,⟨0,[],Nat.zero_le _,?_⟩,fun i hi=>?_⟩
   ·(focus ((repeat' first|exact trivial|exact rfl|exact .inl rfl|exact .inr ⟨rfl,rfl⟩|refine And.intro ?_ ?_);done))
   have hk:=key i hi
   conv=>whnf
   refine⟨rfl,cmp_split (fun h=>?_) (fun h=>?_)⟩
   ·rw[List.length_map] at h
    have hil:i < r.length:=by omega
    conv=>whnf
    refine st_idx hil rfl ?_
    conv=>whnf
    refine⟨by omega,valF (signI b) (r.take i)*256,wrap64 (by show _≤_*256;omega) (by show _*256≤_;omega),?_⟩
    conv=>whnf
    refine st_int r[i] ?_
    conv=>whnf
    refine⟨rfl,_,or_byte _ r[i] (by omega) (by omega),?_⟩
    conv=>whnf
    refine⟨rfl,st_succ (by omega) ?_⟩
    conv=>whnf
    refine⟨i+1,[],hil,by dsimp only;omega,?_⟩
    dsimp only
    rw[List.take_succ_eq_append_getElem hil,valF_snoc]
    (focus ((repeat' first|exact trivial|exact rfl|exact .inl rfl|exact .inr ⟨rfl,rfl⟩|refine And.intro ?_ ?_);done))
   ·rw [List.length_map] at h
    have hie:i=r.length:=by omega
    subst hie
    rw[List.take_length] at hk
    conv=>whnf
    rw[List.take_length]
    have hl:=least_fn p (valF (signI b) r)
    unfold leastT at hl
    have hv:valL (bl s)=valF (signI b) r:=by rw[hbr];rfl
    have hlen:(bl s).length=s.size:=size_bl s
    cases hw:leastW (valF (signI b) r) with
    | none=>
     rw[hw] at hl
     have hrd:readI (bl s)=none:=by
      unfold readI
      rw[hv,hw,if_neg (fun h=>by cases h.2.2)]
     (refine st_call hl ?_ rfl rfl ?_;(focus ((repeat' first|exact trivial|exact rfl|exact .inl rfl|exact .inr ⟨rfl,rfl⟩|refine And.intro ?_ ?_);done));conv=>whnf)
     refine⟨none,by kernel_rfl,?_⟩;conv=>whnf
     refine⟨numV p,⟨by decide,rfl⟩,?_⟩
     conv=>whnf
     unfold readT0
     rw[hrd]
     exact⟨⟨.inl rfl,.inl rfl,trivial⟩,rfl⟩
    | some w=>
     rw[hw] at hl
     (refine st_call hl ?_ rfl rfl ?_;(focus ((repeat' first|exact trivial|exact rfl|exact .inl rfl|exact .inr ⟨rfl,rfl⟩|refine And.intro ?_ ?_);done));conv=>whnf)
     refine⟨rfl,cmp_split (fun h5=>?_) (fun h5=>?_)⟩
     ·have hrd:readI (bl s)=none:=by
       unfold readI
       rw[hv,hw,hlen,if_neg (fun h=>h5 (by have:=h.2.2;injection this with this;omega))]
      conv=>whnf
      refine⟨none,by kernel_rfl,?_⟩;conv=>whnf
      refine⟨numV p,⟨by decide,rfl⟩,?_⟩
      conv=>whnf
      unfold readT0
      rw[hrd]
      exact⟨⟨.inl rfl,.inl rfl,trivial⟩,rfl⟩
     ·have hrd:readI (bl s)=some (valF (signI b) r):=by
       unfold readI
       rw[hv,hw,hlen,if_pos ⟨by omega,by omega,by congr 1;omega⟩]
      conv=>whnf
      unfold readT0
      rw[hrd]
      exact⟨⟨.inl rfl,.inl rfl,trivial⟩,rfl⟩
theorem readInt_fn(s:ByteArray)(hs:s.size≤1000000000):Fn Tryz.prog (envX p) 141 [.v (.str s)] (readT s):=by
 have hr:=read_fn p s hs
 unfold readT0 at hr
 unfold readT
 cases h:readI (bl s) with
 | none=>
  rw[h] at hr
  refine fn_prog tabOk mixed Tryz.f141 Tryz.func141 (by kernel_rfl) (by kernel_rfl) ?_
  conv=>whnf
  (refine st_call hr ?_ rfl rfl ?_;(focus ((repeat' first|exact trivial|exact rfl|exact .inl rfl|exact .inr ⟨rfl,rfl⟩|refine And.intro ?_ ?_);done));conv=>whnf)
  (refine st_call (told_number_fn p s) ?_ rfl rfl ?_;(focus ((repeat' first|exact trivial|exact rfl|exact .inl rfl|exact .inr ⟨rfl,rfl⟩|refine And.intro ?_ ?_);done));conv=>whnf)
  exact⟨⟨.inl rfl,.inl rfl,trivial⟩,rfl⟩
 | some n=>
  rw[h] at hr
  refine fn_prog tabOk mixed Tryz.f141 Tryz.func141 (by kernel_rfl) (by kernel_rfl) ?_
  conv=>whnf
  (refine st_call hr ?_ rfl rfl ?_;(focus ((repeat' first|exact trivial|exact rfl|exact .inl rfl|exact .inr ⟨rfl,rfl⟩|refine And.intro ?_ ?_);done));conv=>whnf)
  (refine st_call told_nil_fn ?_ rfl rfl ?_;(focus ((repeat' first|exact trivial|exact rfl|exact .inl rfl|exact .inr ⟨rfl,rfl⟩|refine And.intro ?_ ?_);done));conv=>whnf)
  exact⟨⟨.inl rfl,.inl rfl,trivial⟩,rfl⟩
end Go.Proofs.YtknelogmocedeaaGreatDoor.Pr
namespace Go.Proofs.YtknelogmocedeaaGreatDoor.Tl
open Go.RowKit Go.Shelf Go.Lib
open Fl (bl bt' bl_bt bl_of size_bl)
set_option linter.unusedVariables false
mutual
def cN:Nd→List V
 | .mk t d k=>[.int .i64 t,.str d,.sl (cNs k)]
def cNs:List Nd→List (List V)
 | []=>[]
 | x::r=>cN x::cNs r
end
theorem cNs_map:∀l:List Nd,cNs l=l.map cN
 | []=>rfl
 | x::r=>by rw[cNs,cNs_map r];rfl
def cM(x:Nd):List V:=[.int .i64 x.tag,.str x.data,.sl (x.kids.map cN)]
theorem cM_eq:∀x:Nd,cN x=cM x
 | .mk t d k=>by rw[cN,cNs_map];rfl
theorem st_idxN{xs:List Nd}{i:Nat}{K:List V→Prop}(h:i < xs.length)(hK:K (cM (xs[i]'h))):∃c,(0:Int)≤(i:Nat)∧(xs.map cN)[((i:Nat):Int).toNat]? =some c∧c.length=3∧K c:=
 ⟨_,by omega,by rw[Int.toNat_natCast,List.getElem?_map,List.getElem?_eq_getElem h,Option.map_some,cM_eq],rfl,hK⟩
theorem cN_len(x:Nd):(cN x).length=3:=by cases x;rfl
mutual
def midN:Nd→Prop
 | .mk t d k=>k.length≤100000000∧midNs k
def midNs:List Nd→Prop
 | []=>True
 | x::r=>midN x∧midNs r
end
theorem midNs_mem:∀{l:List Nd},midNs l→∀x∈l,midN x
 | [],_,x,hx=>by cases hx
 | y::r,h,x,hx=>by
  rcases List.mem_cons.1 hx with rfl | hx
  ·exact h.1
  ·exact midNs_mem h.2 x hx
theorem midN_at{x:Nd}(h:midN x):x.kids.length≤100000000∧midNs x.kids:=by cases x;exact h
mutual
def kidLe(B:Nat):Nd→Prop
 | .mk _ d k=>d.size≤100000000∧k.length≤B∧kidLes B k
def kidLes(B:Nat):List Nd→Prop
 | []=>True
 | x::r=>kidLe B x∧kidLes B r
end
theorem kidLe_at{B:Nat}{n:Nd}(h:kidLe B n):n.data.size≤100000000∧n.kids.length≤B∧kidLes B n.kids:=by cases n;exact h
theorem kidLes_mem{B:Nat}:∀{l:List Nd},kidLes B l→∀x∈l,kidLe B x
 | [],_,x,hx=>by cases hx
 | y::r,h,x,hx=>by
  rcases List.mem_cons.1 hx with rfl | hx
  ·exact h.1
  ·exact kidLes_mem h.2 x hx
mutual
theorem kidLe_mid{B:Nat}(hB:B≤100000000):∀{n:Nd},kidLe B n→midN n
 | .mk t d k,h=>⟨by have:=h.2.1;omega,kidLes_mid hB h.2.2⟩
theorem kidLes_mid{B:Nat}(hB:B≤100000000):∀{l:List Nd},kidLes B l→midNs l
 | [],_=>trivial
 | x::r,h=>⟨kidLe_mid hB h.1,kidLes_mid hB h.2⟩
end
end Go.Proofs.YtknelogmocedeaaGreatDoor.Tl
