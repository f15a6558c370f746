/- Several texts, one behind the other. strings.IndexRune at the digits and a rune that is none of ASCII's, and has two bytes, or is none. Conditions: those. errors.As at an error type of whatever package: a struct of one cell (Go's text of both is walked). No conditions beyond the shape of memory that each theorem names. errors.As at an error type of the package Code: a struct of one cell. No conditions beyond the shape of memory that each theorem names. errors.Is at an error of the package Code that wraps the package's sentinel, against a sentinel: true just if it is that one (Go's text is walked). No conditions beyond the shape of memory that each theorem names. code.told: the number of an error of the package code. Conditions: the package's variable holds its sentinel. -/
import Derived.Test.YtknelogmocedeaaGreatDoorR15
import Derived.Test.YtknelogmocedeaaGreatDoorR01
import Derived.Deep.QuietTactic
import Derived.BigQuiet
import Derived.Test.YtknelogmocedeaaGreatDoorProg
import Derived.WalkKit
import Derived.Below
import Derived.KernelRfl
import Derived.LaidEql
import Derived.Stop.Asserts
import Derived.RowKitTokens
import Derived.Outline
import Derived.Laws.Rows
import Derived.RangeFuncRecord
import Derived.Laws.Tables
namespace Go.Proofs.YtknelogmocedeaaGreatDoor.Code
open Go.RowKit
set_option linter.unusedVariables false
set_option maxRecDepth 1000000 in
set_option maxHeartbeats 8000000 in
theorem index_two(r:Nat)(h1:128≤r)(h2:r < 2048)(w:World):Calls Tryz.prog 204 #[.string ⟨#[48,49,50,51,52,53,54,55,56,57,97,98,99,100,101,102]⟩,.int .i32 r] w fun e w'=>e=.returned (.int .i64 (-1))∧Below w.heap.size w w':=by
 have g1:(128:Int)≤(r:Int):=by omega
 have g2:(0:Int)≤(r:Int):=by omega
 have g3:((r:Int)==65533)=false:=by simp;omega
 have hv:Lib.validRune r=true:=by unfold Lib.validRune;simp;omega
 obtain⟨b1,b2,hb2,henc⟩:∃b1 b2:UInt8,128≤b2.toNat∧Utf8.encode r=⟨#[b1,b2]⟩:=by
  have hu:Utf8.valid (r:Int)=true:=by unfold Utf8.valid;simp;omega
  refine⟨UInt8.ofNat (192+r / 64),UInt8.ofNat (128+r % 64),?_,?_⟩
  ·rw[UInt8.toNat_ofNat'];omega
  ·unfold Utf8.encode
   simp only[hu,if_true,Int.toNat_natCast]
   rw[if_neg (by omega),if_pos (by omega)]
 have g4:((49:Int) != (b2.toNat:Int))=true:=by simp;omega
 have HI:=Aside.mk (show Lib.indexByte [50,51,52,53,54,55,56,57,97,98,99,100,101,102] b2= -1 by
  have:=Txt.index_mem b2 [50,51,52,53,54,55,56,57,97,98,99,100,101,102]
  have hc:([50,51,52,53,54,55,56,57,97,98,99,100,101,102]:List UInt8).contains b2=false:=by
   rw[List.contains_eq_any_beq,List.any_eq_false]
   intro x hx
   simp only[List.mem_cons,List.not_mem_nil,or_false] at hx
   intro e
   have e2:=beq_iff_eq.1 e
   subst e2
   rcases hx with h | h | h | h | h | h | h | h | h | h | h | h | h | h <;> (rw[h] at hb2;exact absurd hb2 (by decide))
  rw[hc] at this
  have h2:=of_decide_eq_false this
  have h3:=Lib.indexByte_ge [50,51,52,53,54,55,56,57,97,98,99,100,101,102] b2
  omega)
 have hi1:∀W:World,(Instr.index 9 (.string ⟨#[48,49,50,51,52,53,54,55,56,57,97,98,99,100,101,102]⟩) (.int .i64 1)).run Tryz.prog W=.ok (.int .u8 49) W:=fun W=>by kernel_rfl
 have hi2:∀W:World,(Instr.index 9 (.string ⟨#[b1,b2]⟩) (.int .i64 1)).run Tryz.prog W=.ok (.int .u8 b2.toNat) W:=fun W=>by kernel_rfl
 go_enter Tryz.func204,Tryz.ntmps204
 go_wp2_with fail
 have hvr:=Shelf.utf8_ValidRune r w
 rw[hv] at hvr
 refine hvr.mono ?_
 rintro e w1 ⟨rfl,rfl⟩
 clear hvr hv
 go_wp2_with fail
 go_step3
 go_wp2_with fail
 refine wp_loop_rounds 1 ?_
 rw[rounds_succ]
 go_wp2_with fail
 go_step3
 go_wp2_with fail
 go_quiet (fail)
 have HW0:=Aside.mk (below_drewN w1 nq)
 obtain⟨W2,hW2⟩:∃W2,W2=w1.drewN nq:=⟨_,rfl⟩
 rw[←hW2] at HW0 ⊢
 clear hW2
 go_wp2_with fail
 have hib:=fun W=>Shelf.strings_IndexByte ⟨#[50,51,52,53,54,55,56,57,97,98,99,100,101,102]⟩ b2.toNat W
 have hc2:((b2.toNat:Int).toNat.toUInt8)=b2:=by rw[Int.toNat_natCast];exact UInt8.ofNat_toNat
 rw[hc2] at hib
 have hib2:∀W,Calls Tryz.prog 208 #[.string ⟨#[50,51,52,53,54,55,56,57,97,98,99,100,101,102]⟩,.int .u8 b2.toNat] W fun e w'=>e=.returned (.int .i64 (-1))∧w'=W:=fun W=>(hib W).mono fun e w' h=>⟨by rw[h.1];exact congrArg (fun x=>Ending.returned (.int .i64 x)) HI.out,h.2⟩
 have HB:=Aside.mk hib2
 clear hib hib2 hc2
 go_quiet ((go_at_call 208;exact Calls.quiet_of_same (HB.out _)))
 go_wp2_with fail
 rw[Exit.noGoto_ret]
 go_wp2
 rw[Exit.noGoto_ret]
 go_ret
 exact⟨rfl,below_then HW0.out (below_drewN _ _)⟩
end Go.Proofs.YtknelogmocedeaaGreatDoor.Code
namespace Go.Proofs.YtknelogmocedeaaGreatDoor.AsG
open Go.RowKit Go.Extern.Stop Go.Stop Go.Extern
theorem rlm(z:Sem Value)(f:TypeId→Addr→Nat→Nat→Sem Value)(v:Value):
  ReflectliteValue.method z f #[v]=(do match ←ReflectliteValue.parts v with | none=>z | some (t,a,fl)=>f t a fl (fl % 32)):=rfl
theorem rls(v x:Value):ReflectliteValue.set #[v,x]=(do
  let (some (dst,a,fl),some (src,b,_)):=(←ReflectliteValue.parts v,←ReflectliteValue.parts x)
   | unsupported (.noEntry "extern/(internal/reflectlite.Value).Set.zeroValue")
  if fl / ReflectliteValue.flagAddr % 2==0 then unsupported (.noEntry "extern/(internal/reflectlite.Value).Set.unaddressable")
  let val ←loadVar src b
  if ←Rtype.directlyAssignable dst src then storeVar dst a val
  else if ←Rtype.implements dst src then
   if(←Rtype.kind src)==20 then
    match val with
    | .nilIface=>unsupported (.noEntry "extern/reflectlite: a nil value of one interface type handed on as a value of another")
    | _=>storeVar dst a val
   else storeVar dst a (.iface src val)
  else panicString ("reflectlite.Set: value of type " ++(←Rtype.spelt src)++ " is not assignable to type " ++(←Rtype.spelt dst))
  pure (.tuple #[])):=rfl
theorem below_setRow{B g:Nat}{w w':World}(h:Below B w w')(hB:B≤g)(cs:Array Value):Below B w (w'.setRow g cs):=
 h.trans ⟨rfl,rfl,rfl,by simp[World.setRow],fun k hk=>by simp only[World.setRow,Array.getElem?_modify];rw[if_neg (by omega)]⟩
structure Ok(W PW:TypeId):Prop where
 valueOfP:∀(t:Addr) (w:World),(ReflectliteValue.unpack (.iface PW (.pointer (some t)))).run Tryz.prog w=.ok (.agg #[.pointer (some ⟨19,PW,none⟩),.pointer (some ⟨w.heap.size,0,none⟩),.int .u64 150]) (w.alloc (.cells #[.pointer (some t)] PW))
 typeP:∀(a:Addr) (w:World),(ReflectliteValue.methodAny (ReflectliteValue.valueError "reflectlite.Value.Type" 0) (fun t _ _ _=>ReflectliteType.toType t) #[.agg #[.pointer (some ⟨19,PW,none⟩),.pointer (some a),.int .u64 150]]).run Tryz.prog w=.ok (.iface 263 (.agg #[.pointer (some ⟨19,PW,none⟩)])) w
 elemP:∀(w:World),(ReflectliteType.method ReflectliteType.elem #[.agg #[.pointer (some ⟨19,PW,none⟩)]]).run Tryz.prog w=.ok (.iface 263 (.agg #[.pointer (some ⟨19,W,none⟩)])) w
 kindP:∀(w:World),((ReflectliteType.abiMethod fun t=>(fun a:Nat=>Value.int IntKind.u8 (a:Int)) <$> Rtype.kind t) #[.pointer (some ⟨19,PW,none⟩)]).run Tryz.prog w=.ok (.int .u8 22) w
 kindW:∀(w:World),((ReflectliteType.abiMethod fun t=>(fun a:Nat=>Value.int IntKind.u8 (a:Int)) <$> Rtype.kind t) #[.pointer (some ⟨19,W,none⟩)]).run Tryz.prog w=.ok (.int .u8 25) w
 implementsW:∀(w:World),(ReflectliteType.relation "Implements" ReflectliteType.implements_ #[.agg #[.pointer (some ⟨19,W,none⟩)],.iface 263 (.agg #[.pointer (some ⟨19,98,none⟩)])]).run Tryz.prog w=.ok (.bool true) w
 typeOfW:∀(v:Value) (w:World),(ReflectliteType.typeOf #[.iface W v]).run Tryz.prog w=.ok (.iface 263 (.agg #[.pointer (some ⟨19,W,none⟩)])) w
 assignW:∀(w:World),(ReflectliteType.relation "AssignableTo" ReflectliteType.assignableTo #[.agg #[.pointer (some ⟨19,W,none⟩)],.iface 263 (.agg #[.pointer (some ⟨19,W,none⟩)])]).run Tryz.prog w=.ok (.bool true) w
 valueOfW:∀(x:Value) (w:World),(ReflectliteValue.unpack (.iface W (.agg #[x]))).run Tryz.prog w=.ok (.agg #[.pointer (some ⟨19,W,none⟩),.pointer (some ⟨w.heap.size,0,none⟩),.int .u64 153]) (w.alloc (.cells #[x] W))
 parts:∀(a:Addr) (w:World),(ReflectliteValue.parts (.agg #[.pointer (some ⟨19,PW,none⟩),.pointer (some a),.int .u64 150])).run Tryz.prog w=.ok (some (PW,a,150)) w
 partsWa:∀(a:Addr) (w:World),(ReflectliteValue.parts (.agg #[.pointer (some ⟨19,W,none⟩),.pointer (some a),.int .u64 409])).run Tryz.prog w=.ok (some (W,a,409)) w
 partsW:∀(a:Addr) (w:World),(ReflectliteValue.parts (.agg #[.pointer (some ⟨19,W,none⟩),.pointer (some a),.int .u64 153])).run Tryz.prog w=.ok (some (W,a,153)) w
 elemOf:∀(w:World),(Rtype.elem? PW).run Tryz.prog w=.ok (some W) w
 mkW:∀(p:Addr) (w:World),(ReflectliteValue.mk W p ReflectliteValue.flagAddr).run Tryz.prog w=.ok (.agg #[.pointer (some ⟨19,W,none⟩),.pointer (some p),.int .u64 409]) w
 direct:∀(w:World),(Rtype.directlyAssignable W W).run Tryz.prog w=.ok true w
 uP:Tryz.prog.underlying PW=some (.pointer W)
 setW:∀(g b:Nat) (old0 x:Value) (fr:Nat×Nat) (V:World) (_hx:x.oneCell'=true) (_hb:V.heap[b]? =some (.cells #[x] W fr)) (_ht:V.heap[g]? =some (.cells #[old0] W (0,0))),(ReflectliteValue.set #[.agg #[.pointer (some ⟨19,W,none⟩),.pointer (some ⟨g,0,none⟩),.int .u64 409],.agg #[.pointer (some ⟨19,W,none⟩),.pointer (some ⟨b,0,none⟩),.int .u64 153]]).run Tryz.prog V=.ok (.tuple #[]) (V.setRow g #[x])
theorem methodKind(h:Value)(w:World):(Go.method 477 263 (.agg #[h]) "Kind").run Tryz.prog w=.ok (227,h) w:=by kernel_rfl
theorem methodElem(h:Value)(w:World):(Go.method 477 263 (.agg #[h]) "Elem").run Tryz.prog w=.ok (247,.agg #[h]) w:=by kernel_rfl
theorem methodImplements(h:Value)(w:World):(Go.method 477 263 (.agg #[h]) "Implements").run Tryz.prog w=.ok (248,.agg #[h]) w:=by kernel_rfl
theorem methodAssignableTo(h:Value)(w:World):(Go.method 477 263 (.agg #[h]) "AssignableTo").run Tryz.prog w=.ok (245,.agg #[h]) w:=by kernel_rfl
theorem isNil{W PW:TypeId}(o:Ok W PW)(a p:Addr)(V:World)(ha:V.cell? a=some (.pointer (some p))):
  (ReflectliteValue.method (ReflectliteValue.valueError "reflectlite.Value.IsNil" 0) ReflectliteValue.isNil #[.agg #[.pointer (some ⟨19,PW,none⟩),.pointer (some a),.int .u64 150]]).run Tryz.prog V=.ok (.bool false) V:=by
 rw[rlm]
 simp only[Sem.run_bind,o.parts,Result.andThen]
 simp[ReflectliteValue.isNil,loadVar,isAgg,underlying,o.uP,ha,Result.andThen]
theorem elemV{W PW:TypeId}(o:Ok W PW)(a p:Addr)(V:World)(ha:V.cell? a=some (.pointer (some p))):
  (ReflectliteValue.method (ReflectliteValue.valueError "reflectlite.Value.Elem" 0) ReflectliteValue.elem #[.agg #[.pointer (some ⟨19,PW,none⟩),.pointer (some a),.int .u64 150]]).run Tryz.prog V
   =.ok (.agg #[.pointer (some ⟨19,W,none⟩),.pointer (some p),.int .u64 409]) V:=by
 rw[rlm]
 simp only[Sem.run_bind,o.parts,Result.andThen]
 simp[ReflectliteValue.elem,loadVar,isAgg,underlying,o.uP,ha,Result.andThen,o.elemOf,o.mkW]
set_option maxHeartbeats 4000000 in
set_option maxRecDepth 100000 in
theorem as_hit{W PW:TypeId}(o:Ok W PW)(g:Nat)(old0 x:Value)(w:World)(hx:x.oneCell'=true)(hg:w.cell? ⟨7,0,none⟩=some (.iface 263 (.agg #[.pointer (some ⟨19,98,none⟩)])))
  (ht:w.heap[g]? =some (.cells #[old0] W (0,0))):
  Calls Tryz.prog 85 #[.iface W (.agg #[x]),.iface PW (.pointer (some ⟨g,0,none⟩))] w fun ev w'=>ev=.returned (.bool true)∧Below g w w'∧w'.heap[g]? =some (.cells #[x] W (0,0)):=by
 have h6:= @run_callFunc_extern Tryz.prog 117 _ (fun args=>ReflectliteValue.unpack (args.getD 0 (.tuple #[]))) Tryz.func117 (by kernel_rfl) (by kernel_rfl) (by kernel_rfl) (by kernel_rfl)
 have h7:= @run_callFunc_extern Tryz.prog 118 _ (ReflectliteValue.methodAny (ReflectliteValue.valueError "reflectlite.Value.Type" 0) (fun t _ _ _=>ReflectliteType.toType t)) Tryz.func118 (by kernel_rfl) (by kernel_rfl) (by kernel_rfl) (by kernel_rfl)
 have h8:= @run_callFunc_extern Tryz.prog 119 _ (ReflectliteValue.method (ReflectliteValue.valueError "reflectlite.Value.IsNil" 0) ReflectliteValue.isNil) Tryz.func119 (by kernel_rfl) (by kernel_rfl) (by kernel_rfl) (by kernel_rfl)
 have h27:= @run_callFunc_extern Tryz.prog 227 _ (ReflectliteType.abiMethod fun t=>do pure (.int .u8 (←Rtype.kind t))) Tryz.func227 (by kernel_rfl) (by kernel_rfl) (by kernel_rfl) (by kernel_rfl)
 have h37:= @run_callFunc_extern Tryz.prog 247 _ (ReflectliteType.method ReflectliteType.elem) Tryz.func247 (by kernel_rfl) (by kernel_rfl) (by kernel_rfl) (by kernel_rfl)
 have h38:= @run_callFunc_extern Tryz.prog 248 _ (ReflectliteType.relation "Implements" ReflectliteType.implements_) Tryz.func248 (by kernel_rfl) (by kernel_rfl) (by kernel_rfl) (by kernel_rfl)
 have h10:= @run_callFunc_extern Tryz.prog 121 _ ReflectliteType.typeOf Tryz.func121 (by kernel_rfl) (by kernel_rfl) (by kernel_rfl) (by kernel_rfl)
 have h35:= @run_callFunc_extern Tryz.prog 245 _ (ReflectliteType.relation "AssignableTo" ReflectliteType.assignableTo) Tryz.func245 (by kernel_rfl) (by kernel_rfl) (by kernel_rfl) (by kernel_rfl)
 have h11:= @run_callFunc_extern Tryz.prog 155 _ (ReflectliteValue.method (ReflectliteValue.valueError "reflectlite.Value.Elem" 0) ReflectliteValue.elem) Tryz.func155 (by kernel_rfl) (by kernel_rfl) (by kernel_rfl) (by kernel_rfl)
 have h12:= @run_callFunc_extern Tryz.prog 156 _ ReflectliteValue.set Tryz.func156 (by kernel_rfl) (by kernel_rfl) (by kernel_rfl) (by kernel_rfl)
 have tO:=o.typeOfW
 have mA:=methodAssignableTo
 have a25:=o.assignW
 have v25:=o.valueOfW
 have f6:=o.valueOfP
 have f7:=o.typeP
 have mK:=methodKind
 have mE:=methodElem
 have mI:=methodImplements
 have k27:=o.kindP
 have k25:=o.kindW
 have e27:=o.elemP
 have i25:=o.implementsW
 have hlt:g < w.heap.size:=by
  rcases Nat.lt_or_ge g w.heap.size with h | h
  ·exact h
  ·simp[Array.getElem?_eq_none h] at ht
 have hgg:7 < w.heap.size:=by
  rcases Nat.lt_or_ge 7 w.heap.size with h | h
  ·exact h
  ·simp[World.cell?,Array.getElem?_eq_none h] at hg
 have hg2:((w.alloc (.cells #[.pointer (some ⟨g,0,none⟩)] PW)).alloc (.cells #[.pointer (some ⟨19,PW,none⟩),.pointer (some ⟨w.heap.size,0,none⟩),.int .u64 150] 209)).cell? ⟨7,0,none⟩=some (.iface 263 (.agg #[.pointer (some ⟨19,98,none⟩)])):=by
  rw[World.cell?_alloc_lt _ _ ⟨7,0,none⟩ (by simp;omega),World.cell?_alloc_lt _ _ ⟨7,0,none⟩ hgg];exact hg
 have n8:=isNil o ⟨w.heap.size,0,none⟩ ⟨g,0,none⟩ ((w.alloc (.cells #[.pointer (some ⟨g,0,none⟩)] PW)).alloc (.cells #[.pointer (some ⟨19,PW,none⟩),.pointer (some ⟨w.heap.size,0,none⟩),.int .u64 150] 209)) (by simp)
 have el:=elemV o ⟨w.heap.size,0,none⟩ ⟨g,0,none⟩ (((w.alloc (.cells #[.pointer (some ⟨g,0,none⟩)] PW)).alloc (.cells #[.pointer (some ⟨19,PW,none⟩),.pointer (some ⟨w.heap.size,0,none⟩),.int .u64 150] 209)).alloc (.cells #[.pointer (some ⟨19,PW,none⟩),.pointer (some ⟨w.heap.size,0,none⟩),.int .u64 150] 209)) (by rw[World.cell?_alloc_lt _ _ ⟨w.heap.size,0,none⟩ (by simp;omega)];simp)
 have st:=o.setW g (w.heap.size+1+1+1) old0 x (0,0) ((((w.alloc (.cells #[.pointer (some ⟨g,0,none⟩)] PW)).alloc (.cells #[.pointer (some ⟨19,PW,none⟩),.pointer (some ⟨w.heap.size,0,none⟩),.int .u64 150] 209)).alloc (.cells #[.pointer (some ⟨19,PW,none⟩),.pointer (some ⟨w.heap.size,0,none⟩),.int .u64 150] 209)).alloc (.cells #[x] W)) hx (by have:=World.alloc_heap_new (((w.alloc (.cells #[.pointer (some ⟨g,0,none⟩)] PW)).alloc (.cells #[.pointer (some ⟨19,PW,none⟩),.pointer (some ⟨w.heap.size,0,none⟩),.int .u64 150] 209)).alloc (.cells #[.pointer (some ⟨19,PW,none⟩),.pointer (some ⟨w.heap.size,0,none⟩),.int .u64 150] 209)) (.cells #[x] W);simpa using this) (by rw[Below.heap_alloc _ _ _ (by simp;omega),Below.heap_alloc _ _ _ (by simp;omega),Below.heap_alloc _ _ _ (by simp;omega),Below.heap_alloc _ _ _ hlt];exact ht)
 go_enter Tryz.func85,Tryz.ntmps85
 go_wp2
 refine wp_loop_rounds 1 ?_
 rw[rounds_succ]
 go_wp2
 go_ret
 refine⟨rfl,?_,?_⟩
 ·exact below_setRow ((((((Below.refl g w).alloc (by omega) _).alloc (by simp;omega) _).alloc (by simp;omega) _).alloc (by simp;omega) _)) (Nat.le_refl _) _
 ·refine setRow_heap _ g #[old0] _ _ _ ?_
  rw[Below.heap_alloc _ _ _ (by simp;omega),Below.heap_alloc _ _ _ (by simp;omega),Below.heap_alloc _ _ _ (by simp;omega),Below.heap_alloc _ _ _ hlt];exact ht
set_option maxRecDepth 100000 in
theorem as_nil(W PW:TypeId)(g:Nat)(old0:Value)(w:World)(_ht:w.heap[g]? =some (.cells #[old0] W (0,0))):
  Calls Tryz.prog 85 #[.nilIface,.iface PW (.pointer (some ⟨g,0,none⟩))] w fun ev w'=>ev=.returned (.bool false)∧Below w.heap.size w w':=by
 go_enter Tryz.func85,Tryz.ntmps85
 go_wp2
 go_ret
 exact⟨rfl,Below.refl _ _⟩
end Go.Proofs.YtknelogmocedeaaGreatDoor.AsG
namespace Go.Proofs.YtknelogmocedeaaGreatDoor.AsCode
open Go.RowKit Go.Extern.Stop Go.Stop Go.Extern AsG
theorem ok:Ok 346 347:=by
 refine⟨?_,?_,?_,?_,?_,?_,?_,?_,?_,?_,?_,?_,?_,?_,?_,Tryz.underlying347,?_⟩
 ·intros;kernel_rfl
 ·intros;kernel_rfl
 ·intros;kernel_rfl
 ·intros;kernel_rfl
 ·intros;kernel_rfl
 ·intros;kernel_rfl
 ·intros;kernel_rfl
 ·intros;kernel_rfl
 ·intros;kernel_rfl
 ·intros;kernel_rfl
 ·intros;kernel_rfl
 ·intros;kernel_rfl
 ·intros;kernel_rfl
 ·intros;kernel_rfl
 ·intros;kernel_rfl
 ·intro g b old0 x fr V hx hb ht
  have hl:=run_loadVar_row (P:=Tryz.prog) V b 346 346 #[x] fr _ hb Tryz.underlying346 rfl (by kernel_rfl)
  have hs:=run_storeVar_row (P:=Tryz.prog) V g 346 346 #[old0] #[x] ht (by kernel_rfl) rfl (by simp[hx])
  have p1:∀(a:Addr) (w:World),(ReflectliteValue.parts (.agg #[.pointer (some ⟨19,346,none⟩),.pointer (some a),.int .u64 409])).run Tryz.prog w=.ok (some (346,a,409)) w:=by intros;kernel_rfl
  have p2:∀(a:Addr) (w:World),(ReflectliteValue.parts (.agg #[.pointer (some ⟨19,346,none⟩),.pointer (some a),.int .u64 153])).run Tryz.prog w=.ok (some (346,a,153)) w:=by intros;kernel_rfl
  have p3:∀w:World,(Rtype.directlyAssignable 346 346).run Tryz.prog w=.ok true w:=by intros;kernel_rfl
  rw[rls]
  simp only[Sem.run_bind,p1,p2,Result.andThen]
  simp[ReflectliteValue.flagAddr,hl,hs,Result.andThen,p3]
theorem as_hit(g:Nat)(old0 x:Value)(w:World)(hx:x.oneCell'=true)(hg:w.cell? ⟨7,0,none⟩=some (.iface 263 (.agg #[.pointer (some ⟨19,98,none⟩)])))(ht:w.heap[g]? =some (.cells #[old0] 346 (0,0))):
  Calls Tryz.prog 85 #[.iface 346 (.agg #[x]),.iface 347 (.pointer (some ⟨g,0,none⟩))] w fun ev w'=>ev=.returned (.bool true)∧Below g w w'∧w'.heap[g]? =some (.cells #[x] 346 (0,0)):=AsG.as_hit ok g old0 x w hx hg ht
theorem as_nil(g:Nat)(old0:Value)(w:World)(ht:w.heap[g]? =some (.cells #[old0] 346 (0,0))):
  Calls Tryz.prog 85 #[.nilIface,.iface 347 (.pointer (some ⟨g,0,none⟩))] w fun ev w'=>ev=.returned (.bool false)∧Below w.heap.size w w':=AsG.as_nil 346 347 g old0 w ht
end Go.Proofs.YtknelogmocedeaaGreatDoor.AsCode
namespace Go.Proofs.YtknelogmocedeaaGreatDoor.IsCode
open Go.RowKit Go.Extern.Stop Go.Stop Go.Extern
theorem isTypeOf(v:Value)(w:World):(Extern.ReflectliteType.typeOf #[.iface 348 v]).run Tryz.prog w=.ok (.iface 263 (.agg #[.pointer (some ⟨19,348,none⟩)])) w:=by kernel_rfl
def cmpEntry:Array Value→Sem Value:=Extern.ReflectliteType.method fun t=>do Rtype.noPackHeld "Comparable" t;pure (.bool (←typeInfo t).comparable)
theorem isComparable(w:World):(cmpEntry #[.agg #[.pointer (some ⟨19,348,none⟩)]]).run Tryz.prog w=.ok (.bool true) w:=by kernel_rfl
theorem isMethodComparable(v:Value)(w:World):(Go.method 477 263 v "Comparable").run Tryz.prog w=.ok (246,v) w:=by kernel_rfl
theorem isComp:(Tryz.prog.info? 348).map (·.comparable)=some true:=by kernel_rfl
theorem isSize:(Tryz.prog.info? 366).map (·.size)=some 1:=by kernel_rfl
theorem noIsE(v:Value)(xT:TypeId)(w:World):(Instr.typeAssert (.iface 348 v) xT 274 true).run Tryz.prog w=.ok (.tuple #[.nilIface,.bool false]) w:=run_typeAssert_lacksB Tryz.underlying274 (by kernel_rfl) (by kernel_rfl) v xT w
theorem noUnwrapE(v:Value)(xT:TypeId)(w:World):(Instr.typeAssert (.iface 348 v) xT 270 true).run Tryz.prog w=.ok (.tuple #[.nilIface,.bool false]) w:=run_typeAssert_lacksB Tryz.underlying270 (by kernel_rfl) (by kernel_rfl) v xT w
theorem noUnwrapsE(v:Value)(xT:TypeId)(w:World):(Instr.typeAssert (.iface 348 v) xT 271 true).run Tryz.prog w=.ok (.tuple #[.nilIface,.bool false]) w:=run_typeAssert_lacksB Tryz.underlying271 (by kernel_rfl) (by kernel_rfl) v xT w
theorem noIsW(v:Value)(xT:TypeId)(w:World):(Instr.typeAssert (.iface 346 v) xT 274 true).run Tryz.prog w=.ok (.tuple #[.nilIface,.bool false]) w:=run_typeAssert_lacksB Tryz.underlying274 (by kernel_rfl) (by kernel_rfl) v xT w
theorem hasUnwrapW(v:Value)(xT:TypeId)(w:World):(Instr.typeAssert (.iface 346 v) xT 270 true).run Tryz.prog w=.ok (.tuple #[.iface 346 v,.bool true]) w:=run_typeAssert_hasB Tryz.underlying270 (by kernel_rfl) v xT w
theorem methodUnwrap(v:Value)(w:World):(Go.method 477 346 v "Unwrap").run Tryz.prog w=.ok (263,v) w:=by kernel_rfl
set_option maxRecDepth 100000 in
set_option maxHeartbeats 4000000 in
theorem is_same(x:Value)(b:Addr)(w:World)(hg:w.cell? ⟨17,0,none⟩=some (.iface 348 (.pointer (some b)))):
  Calls Tryz.prog 86 #[.iface 346 (.agg #[x]),.iface 348 (.pointer (some b))] w fun e w'=>e=.returned (.bool true)∧w.alloc (.cells #[x] 346)=w':=by
 obtain⟨i,hi,hcmp⟩:=Option.map_eq_some_iff.1 isComp
 obtain⟨j,hj,hjs⟩:=Option.map_eq_some_iff.1 isSize
 have h8:= @run_callFunc_extern Tryz.prog 121 _ Extern.ReflectliteType.typeOf Tryz.func121 (by kernel_rfl) (by kernel_rfl) (by kernel_rfl) (by kernel_rfl)
 have h32:= @run_callFunc_extern Tryz.prog 246 _ cmpEntry Tryz.func246 (by kernel_rfl) (by kernel_rfl) (by kernel_rfl) (by kernel_rfl)
 have tT:=isTypeOf
 have cT:=isComparable
 have mR:=isMethodComparable
 have nE:=noIsE
 have uE:=noUnwrapE
 have vE:=noUnwrapsE
 have nW:=noIsW
 have uW:=hasUnwrapW
 have mU:=methodUnwrap
 have heq:=run_eql_iface_ptr_same (P:=Tryz.prog) (w.alloc (.cells #[x] 346)) b Tryz.underlying98 Tryz.underlying348 hi hcmp hj
 have hty:=run_eql_iface_types (P:=Tryz.prog) 346 348 (.agg #[x]) (.pointer (some b)) Tryz.underlying98 (by decide) w
 clear hi hcmp hj hjs
 have hlt:=World.block_lt_of_cell? w _ hg
 go_enter Tryz.func86,Tryz.ntmps86
 go_wp2
 refine wp_loop_rounds 2 ?_
 rw[rounds_succ]
 go_wp2
 rw[rounds_succ]
 go_wp2
 go_ret
 exact⟨rfl,rfl⟩
set_option maxRecDepth 100000 in
theorem is_nil(b:Addr)(w:World):
  Calls Tryz.prog 86 #[.nilIface,.iface 348 (.pointer (some b))] w fun e w'=>e=.returned (.bool false)∧w=w':=by
 have hnl:=fun w=>run_eql_iface_nil_left (P:=Tryz.prog) (w:=w) 348 (.pointer (some b)) Tryz.underlying98
 go_enter Tryz.func86,Tryz.ntmps86
 go_wp2
 go_ret
 exact⟨rfl,rfl⟩
end Go.Proofs.YtknelogmocedeaaGreatDoor.IsCode
namespace Go.Proofs.YtknelogmocedeaaGreatDoor.ToldCode
open Go.RowKit
theorem told_nil(w:World)(p:Nat→Addr)(h:Globs w p):Calls Tryz.prog 212 #[.nilIface] w fun e w'=>e=.returned (.int .i64 0)∧Below w.heap.size w w':=by
 have k0:=h.cell 17 (by decide)
 have hlt:=World.block_lt_of_cell? w _ k0
 clear h
 go_enter Tryz.func212,Tryz.ntmps212
 go_wp2_with fail
 have h1:=Aside.mk (below_new w (.cells #[.int .i64 0] 346))
 refine(IsCode.is_nil _ _).mono ?_
 rintro e w0 ⟨rfl,rfl⟩
 go_wp2
 go_ret
 exact⟨rfl,h1.out⟩
set_option maxHeartbeats 1000000 in
theorem told_wrong(x:Value)(hx:x.oneCell'=true)(w:World)(p:Nat→Addr)(h:Globs w p):
  Calls Tryz.prog 212 #[.iface 346 (.agg #[x])] w fun e w'=>e=.returned (.int .i64 50)∧Below w.heap.size w w':=by
 have k0:=h.cell 17 (by decide)
 have hlt:=World.block_lt_of_cell? w _ k0
 go_enter Tryz.func212,Tryz.ntmps212
 go_wp2_with fail
 have h1:Below w.heap.size w (w.alloc (.cells #[.int .i64 0] 346)):=below_new _ _
 have k1:=cell_below k0 h1
 refine(IsCode.is_same x _ _ k1).mono ?_
 rintro e w1 ⟨rfl,hb⟩
 have h2:Below w.heap.size w w1:=below_then h1 (by rw[←hb];exact below_new _ _)
 have hc:w1.heap[w.heap.size]? =some (.cells #[.int .i64 0] 346 (0,0)):=by rw[←hb];exact blk_below (World.alloc_heap_new w _) (below_new _ _)
 have HC:=Aside.mk hc
 have H2:=Aside.mk h2
 have H3:=Aside.mk (h.below h2).et
 have hlt1:w.heap.size < w1.heap.size:=(Array.getElem?_eq_some_iff.1 hc).1
 clear k0 k1 hb hlt h h1 h2 hc
 go_wp2_with fail
 refine(AsCode.as_hit w.heap.size (.int .i64 0) x _ hx H3.out HC.out).mono ?_
 rintro e w0 ⟨rfl,hb,hc⟩
 have H0:=Aside.mk (H2.out.trans hb)
 clear hb hc
 go_wp2
 go_ret
 exact⟨rfl,H0.out⟩
end Go.Proofs.YtknelogmocedeaaGreatDoor.ToldCode
