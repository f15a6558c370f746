/- Several texts, one behind the other. errors.As and errors.Is at an error type of the package Tlv: a struct of one cell, wrapped in another one of two (Go's text of both is walked). No conditions beyond the shape of memory that each theorem names. errors.Is at an error of the package Tlv that wraps a sentinel, against a sentinel: true just if it is that one (Go's text is walked). No conditions beyond the shape of memory that each theorem names. tlv.told: the number of an error. Conditions: the package's variables hold their sentinels. tlv, walked: errors told. tlv, walked: which trees are ones, but for what is in them; equality of trees. Conditions: at most 10^8 in one. -/
import Derived.Test.YtiafggoaedifdaaGreatDoorProg
import Derived.WalkKit
import Derived.Below
import Derived.KernelRfl
import Derived.LaidEql
import Derived.Stop.Asserts
import Derived.RowKitTokens
import Derived.Outline
import Derived.Laws.Rows
import Derived.RangeFuncRecord
import Derived.Laws.Tables
import Derived.Test.YtiafggoaedifdaaGreatDoorP01
import Derived.Test.YtiafggoaedifdaaGreatDoorP26
import Derived.Test.YtiafggoaedifdaaGreatDoorP24
/- errors.As and errors.Is at an error type of the package Tlv: a struct of one cell, wrapped in another one of two (Go's text of both is walked). No conditions beyond the shape of memory that each theorem names. -/
namespace Go.Proofs.YtiafggoaedifdaaGreatDoor.AsTlv
open Go.RowKit Go.Extern.Stop Go.Stop Go.Extern
theorem rlm (z : Sem Value) (f : TypeId → Addr → Nat → Nat → Sem Value) (v : Value) :
  ReflectliteValue.method z f #[v] = (do match ← ReflectliteValue.parts v with | none => z | some (t, a, fl) => f t a fl (fl % 32)) := rfl
theorem rls (v x : Value) : ReflectliteValue.set #[v, x] = (do
  let (some (dst, a, fl), some (src, b, _)) := (← ReflectliteValue.parts v, ← ReflectliteValue.parts x)
   | unsupported (.noEntry "extern/(internal/reflectlite.Value).Set.zeroValue")
  if fl / ReflectliteValue.flagAddr % 2 == 0 then unsupported (.noEntry "extern/(internal/reflectlite.Value).Set.unaddressable")
  let val ← loadVar src b
  if ← Rtype.directlyAssignable dst src then storeVar dst a val
  else if ← Rtype.implements dst src then
   if (← Rtype.kind src) == 20 then
    match val with
    | .nilIface => unsupported (.noEntry "extern/reflectlite: a nil value of one interface type handed on as a value of another")
    | _ => storeVar dst a val
   else storeVar dst a (.iface src val)
  else panicString ("reflectlite.Set: value of type " ++ (← Rtype.spelt src) ++ " is not assignable to type " ++ (← Rtype.spelt dst))
  pure (.tuple #[])) := rfl
theorem below_setRow {B g : Nat} {w w' : World} (h : Below B w w') (hB : B ≤ g) (cs : Array Value) : Below B w (w'.setRow g cs) :=
 h.trans ⟨rfl, rfl, rfl, by simp [World.setRow], fun k hk => by simp only [World.setRow, Array.getElem?_modify]; rw [if_neg (by omega)]⟩
theorem valueOfP (t : Addr) (w : World) : (ReflectliteValue.unpack (.iface 172 (.pointer (some t)))).run Tryz.prog w
  = .ok (.agg #[.pointer (some ⟨16, 172, none⟩), .pointer (some ⟨w.heap.size, 0, none⟩), .int .u64 150]) (w.alloc (.cells #[.pointer (some t)] 172)) := by kernel_rfl
theorem typeP (a : Addr) (w : World) : (ReflectliteValue.methodAny (ReflectliteValue.valueError "reflectlite.Value.Type" 0) (fun t _ _ _ => ReflectliteType.toType t) #[.agg #[.pointer (some ⟨16, 172, none⟩), .pointer (some a), .int .u64 150]]).run Tryz.prog w
  = .ok (.iface 178 (.agg #[.pointer (some ⟨16, 172, none⟩)])) w := by kernel_rfl
theorem elemP (w : World) : (ReflectliteType.method ReflectliteType.elem #[.agg #[.pointer (some ⟨16, 172, none⟩)]]).run Tryz.prog w = .ok (.iface 178 (.agg #[.pointer (some ⟨16, 171, none⟩)])) w := by kernel_rfl
theorem kindP (w : World) : ((ReflectliteType.abiMethod fun t => (fun a : Nat => Value.int IntKind.u8 (a : Int)) <$> Rtype.kind t) #[.pointer (some ⟨16, 172, none⟩)]).run Tryz.prog w = .ok (.int .u8 22) w := by kernel_rfl
theorem kindW (w : World) : ((ReflectliteType.abiMethod fun t => (fun a : Nat => Value.int IntKind.u8 (a : Int)) <$> Rtype.kind t) #[.pointer (some ⟨16, 171, none⟩)]).run Tryz.prog w = .ok (.int .u8 25) w := by kernel_rfl
theorem implementsW (w : World) : (ReflectliteType.relation "Implements" ReflectliteType.implements_ #[.agg #[.pointer (some ⟨16, 171, none⟩)], .iface 178 (.agg #[.pointer (some ⟨16, 61, none⟩)])]).run Tryz.prog w = .ok (.bool true) w := by kernel_rfl
theorem typeOfW (v : Value) (w : World) : (ReflectliteType.typeOf #[.iface 171 v]).run Tryz.prog w = .ok (.iface 178 (.agg #[.pointer (some ⟨16, 171, none⟩)])) w := by kernel_rfl
theorem assignW (w : World) : (ReflectliteType.relation "AssignableTo" ReflectliteType.assignableTo #[.agg #[.pointer (some ⟨16, 171, none⟩)], .iface 178 (.agg #[.pointer (some ⟨16, 171, none⟩)])]).run Tryz.prog w = .ok (.bool true) w := by kernel_rfl
theorem typeOfV (v : Value) (w : World) : (ReflectliteType.typeOf #[.iface 124 v]).run Tryz.prog w = .ok (.iface 178 (.agg #[.pointer (some ⟨16, 124, none⟩)])) w := by kernel_rfl
theorem typeOfES (v : Value) (w : World) : (ReflectliteType.typeOf #[.iface 266 v]).run Tryz.prog w = .ok (.iface 178 (.agg #[.pointer (some ⟨16, 266, none⟩)])) w := by kernel_rfl
theorem assignV (w : World) : (ReflectliteType.relation "AssignableTo" ReflectliteType.assignableTo #[.agg #[.pointer (some ⟨16, 124, none⟩)], .iface 178 (.agg #[.pointer (some ⟨16, 171, none⟩)])]).run Tryz.prog w = .ok (.bool false) w := by kernel_rfl
theorem assignES (w : World) : (ReflectliteType.relation "AssignableTo" ReflectliteType.assignableTo #[.agg #[.pointer (some ⟨16, 266, none⟩)], .iface 178 (.agg #[.pointer (some ⟨16, 171, none⟩)])]).run Tryz.prog w = .ok (.bool false) w := by kernel_rfl
theorem noAsV (v : Value) (xT : TypeId) (w : World) : (Instr.typeAssert (.iface 124 v) xT 190 true).run Tryz.prog w = .ok (.tuple #[.nilIface, .bool false]) w := run_typeAssert_lacksB Tryz.underlying190 (by kernel_rfl) (by kernel_rfl) v xT w
theorem noAsES (v : Value) (xT : TypeId) (w : World) : (Instr.typeAssert (.iface 266 v) xT 190 true).run Tryz.prog w = .ok (.tuple #[.nilIface, .bool false]) w := run_typeAssert_lacksB Tryz.underlying190 (by kernel_rfl) (by kernel_rfl) v xT w
theorem noUnwrapE (v : Value) (xT : TypeId) (w : World) : (Instr.typeAssert (.iface 266 v) xT 183 true).run Tryz.prog w = .ok (.tuple #[.nilIface, .bool false]) w := run_typeAssert_lacksB Tryz.underlying183 (by kernel_rfl) (by kernel_rfl) v xT w
theorem noUnwrapsE (v : Value) (xT : TypeId) (w : World) : (Instr.typeAssert (.iface 266 v) xT 185 true).run Tryz.prog w = .ok (.tuple #[.nilIface, .bool false]) w := run_typeAssert_lacksB Tryz.underlying185 (by kernel_rfl) (by kernel_rfl) v xT w
theorem hasUnwrapV (v : Value) (xT : TypeId) (w : World) : (Instr.typeAssert (.iface 124 v) xT 183 true).run Tryz.prog w = .ok (.tuple #[.iface 124 v, .bool true]) w := run_typeAssert_hasB Tryz.underlying183 (by kernel_rfl) v xT w
theorem methodUnwrap (v : Value) (w : World) : (Go.method 396 124 v "Unwrap").run Tryz.prog w = .ok (201, v) w := by kernel_rfl
theorem valueOfW (x : Value) (w : World) : (ReflectliteValue.unpack (.iface 171 (.agg #[x]))).run Tryz.prog w
  = .ok (.agg #[.pointer (some ⟨16, 171, none⟩), .pointer (some ⟨w.heap.size, 0, none⟩), .int .u64 153]) (w.alloc (.cells #[x] 171)) := by kernel_rfl
theorem methodKind (h : Value) (w : World) : (Go.method 396 178 (.agg #[h]) "Kind").run Tryz.prog w = .ok (192, h) w := by kernel_rfl
theorem methodElem (h : Value) (w : World) : (Go.method 396 178 (.agg #[h]) "Elem").run Tryz.prog w = .ok (209, .agg #[h]) w := by kernel_rfl
theorem methodImplements (h : Value) (w : World) : (Go.method 396 178 (.agg #[h]) "Implements").run Tryz.prog w = .ok (210, .agg #[h]) w := by kernel_rfl
theorem methodAssignableTo (h : Value) (w : World) : (Go.method 396 178 (.agg #[h]) "AssignableTo").run Tryz.prog w = .ok (207, .agg #[h]) w := by kernel_rfl
theorem parts (a : Addr) (w : World) : (ReflectliteValue.parts (.agg #[.pointer (some ⟨16, 172, none⟩), .pointer (some a), .int .u64 150])).run Tryz.prog w = .ok (some (172, a, 150)) w := by kernel_rfl
theorem partsWa (a : Addr) (w : World) : (ReflectliteValue.parts (.agg #[.pointer (some ⟨16, 171, none⟩), .pointer (some a), .int .u64 409])).run Tryz.prog w = .ok (some (171, a, 409)) w := by kernel_rfl
theorem partsW (a : Addr) (w : World) : (ReflectliteValue.parts (.agg #[.pointer (some ⟨16, 171, none⟩), .pointer (some a), .int .u64 153])).run Tryz.prog w = .ok (some (171, a, 153)) w := by kernel_rfl
theorem elemOf (w : World) : (Rtype.elem? 172).run Tryz.prog w = .ok (some 171) w := by kernel_rfl
theorem mkW (p : Addr) (w : World) : (ReflectliteValue.mk 171 p ReflectliteValue.flagAddr).run Tryz.prog w = .ok (.agg #[.pointer (some ⟨16, 171, none⟩), .pointer (some p), .int .u64 409]) w := by kernel_rfl
theorem isNil (a p : Addr) (W : World) (ha : W.cell? a = some (.pointer (some p))) :
  (ReflectliteValue.method (ReflectliteValue.valueError "reflectlite.Value.IsNil" 0) ReflectliteValue.isNil #[.agg #[.pointer (some ⟨16, 172, none⟩), .pointer (some a), .int .u64 150]]).run Tryz.prog W = .ok (.bool false) W := by
 rw [rlm]
 simp only [Sem.run_bind, parts, Result.andThen]
 simp [ReflectliteValue.isNil, loadVar, isAgg, underlying, Tryz.underlying172, ha, Result.andThen]
theorem elemV (a p : Addr) (W : World) (ha : W.cell? a = some (.pointer (some p))) :
  (ReflectliteValue.method (ReflectliteValue.valueError "reflectlite.Value.Elem" 0) ReflectliteValue.elem #[.agg #[.pointer (some ⟨16, 172, none⟩), .pointer (some a), .int .u64 150]]).run Tryz.prog W
   = .ok (.agg #[.pointer (some ⟨16, 171, none⟩), .pointer (some p), .int .u64 409]) W := by
 rw [rlm]
 simp only [Sem.run_bind, parts, Result.andThen]
 simp [ReflectliteValue.elem, loadVar, isAgg, underlying, Tryz.underlying172, ha, Result.andThen, elemOf, mkW]
theorem direct (w : World) : (Rtype.directlyAssignable 171 171).run Tryz.prog w = .ok true w := by kernel_rfl
theorem setW (g b : Nat) (old0 x : Value) (fr : Nat × Nat) (W : World) (hx : x.oneCell' = true) (hb : W.heap[b]? = some (.cells #[x] 171 fr)) (ht : W.heap[g]? = some (.cells #[old0] 171 (0, 0))) :
  (ReflectliteValue.set #[.agg #[.pointer (some ⟨16, 171, none⟩), .pointer (some ⟨g, 0, none⟩), .int .u64 409], .agg #[.pointer (some ⟨16, 171, none⟩), .pointer (some ⟨b, 0, none⟩), .int .u64 153]]).run Tryz.prog W
   = .ok (.tuple #[]) (W.setRow g #[x]) := by
 have hl := run_loadVar_row (P := Tryz.prog) W b 171 171 #[x] fr _ hb Tryz.underlying171 rfl (by kernel_rfl)
 have hs := run_storeVar_row (P := Tryz.prog) W g 171 171 #[old0] #[x] ht (by kernel_rfl) rfl (by simp [hx])
 rw [rls]
 simp only [Sem.run_bind, partsWa, partsW, Result.andThen]
 simp [ReflectliteValue.flagAddr, hl, hs, Result.andThen, direct]
set_option maxHeartbeats 4000000 in
set_option maxRecDepth 100000 in
theorem as_inner (g : Nat) (old0 x y : Value) (w : World) (hy : y.oneCell' = true) (hg : w.cell? ⟨4, 0, none⟩ = some (.iface 178 (.agg #[.pointer (some ⟨16, 61, none⟩)])))
  (ht : w.heap[g]? = some (.cells #[old0] 171 (0, 0))) :
  Calls Tryz.prog 62 #[.iface 124 (.agg #[x, .iface 171 (.agg #[y])]), .iface 172 (.pointer (some ⟨g, 0, none⟩))] w fun ev w' => ev = .returned (.bool true) ∧ Below g w w' ∧ w'.heap[g]? = some (.cells #[y] 171 (0, 0)) := by
 have h6 := @run_callFunc_extern Tryz.prog 89 _ (fun args => ReflectliteValue.unpack (args.getD 0 (.tuple #[]))) Tryz.func89 (by kernel_rfl) (by kernel_rfl) (by kernel_rfl) (by kernel_rfl)
 have h7 := @run_callFunc_extern Tryz.prog 90 _ (ReflectliteValue.methodAny (ReflectliteValue.valueError "reflectlite.Value.Type" 0) (fun t _ _ _ => ReflectliteType.toType t)) Tryz.func90 (by kernel_rfl) (by kernel_rfl) (by kernel_rfl) (by kernel_rfl)
 have h8 := @run_callFunc_extern Tryz.prog 91 _ (ReflectliteValue.method (ReflectliteValue.valueError "reflectlite.Value.IsNil" 0) ReflectliteValue.isNil) Tryz.func91 (by kernel_rfl) (by kernel_rfl) (by kernel_rfl) (by kernel_rfl)
 have h27 := @run_callFunc_extern Tryz.prog 192 _ (ReflectliteType.abiMethod fun t => do pure (.int .u8 (← Rtype.kind t))) Tryz.func192 (by kernel_rfl) (by kernel_rfl) (by kernel_rfl) (by kernel_rfl)
 have h37 := @run_callFunc_extern Tryz.prog 209 _ (ReflectliteType.method ReflectliteType.elem) Tryz.func209 (by kernel_rfl) (by kernel_rfl) (by kernel_rfl) (by kernel_rfl)
 have h38 := @run_callFunc_extern Tryz.prog 210 _ (ReflectliteType.relation "Implements" ReflectliteType.implements_) Tryz.func210 (by kernel_rfl) (by kernel_rfl) (by kernel_rfl) (by kernel_rfl)
 have h10 := @run_callFunc_extern Tryz.prog 87 _ ReflectliteType.typeOf Tryz.func87 (by kernel_rfl) (by kernel_rfl) (by kernel_rfl) (by kernel_rfl)
 have h35 := @run_callFunc_extern Tryz.prog 207 _ (ReflectliteType.relation "AssignableTo" ReflectliteType.assignableTo) Tryz.func207 (by kernel_rfl) (by kernel_rfl) (by kernel_rfl) (by kernel_rfl)
 have h11 := @run_callFunc_extern Tryz.prog 119 _ (ReflectliteValue.method (ReflectliteValue.valueError "reflectlite.Value.Elem" 0) ReflectliteValue.elem) Tryz.func119 (by kernel_rfl) (by kernel_rfl) (by kernel_rfl) (by kernel_rfl)
 have h12 := @run_callFunc_extern Tryz.prog 120 _ ReflectliteValue.set Tryz.func120 (by kernel_rfl) (by kernel_rfl) (by kernel_rfl) (by kernel_rfl)
 have tO := typeOfW
 have mA := methodAssignableTo
 have a25 := assignW
 have v25 := valueOfW
 have f6 := valueOfP
 have f7 := typeP
 have mK := methodKind
 have mE := methodElem
 have mI := methodImplements
 have k27 := kindP
 have k25 := kindW
 have e27 := elemP
 have i25 := implementsW
 have hlt : g < w.heap.size := by
  rcases Nat.lt_or_ge g w.heap.size with h | h
  ·exact h
  ·simp [Array.getElem?_eq_none h] at ht
 have hgg : 4 < w.heap.size := by
  rcases Nat.lt_or_ge 4 w.heap.size with h | h
  ·exact h
  ·simp [World.cell?, Array.getElem?_eq_none h] at hg
 have hg2 : ((w.alloc (.cells #[.pointer (some ⟨g, 0, none⟩)] 172)).alloc (.cells #[.pointer (some ⟨16, 172, none⟩), .pointer (some ⟨w.heap.size, 0, none⟩), .int .u64 150] 136)).cell? ⟨4, 0, none⟩ = some (.iface 178 (.agg #[.pointer (some ⟨16, 61, none⟩)])) := by
  rw [World.cell?_alloc_lt _ _ ⟨4, 0, none⟩ (by simp; omega), World.cell?_alloc_lt _ _ ⟨4, 0, none⟩ hgg]; exact hg
 have n8 := isNil ⟨w.heap.size, 0, none⟩ ⟨g, 0, none⟩ ((w.alloc (.cells #[.pointer (some ⟨g, 0, none⟩)] 172)).alloc (.cells #[.pointer (some ⟨16, 172, none⟩), .pointer (some ⟨w.heap.size, 0, none⟩), .int .u64 150] 136)) (by simp)
 have el := elemV ⟨w.heap.size, 0, none⟩ ⟨g, 0, none⟩ (((w.alloc (.cells #[.pointer (some ⟨g, 0, none⟩)] 172)).alloc (.cells #[.pointer (some ⟨16, 172, none⟩), .pointer (some ⟨w.heap.size, 0, none⟩), .int .u64 150] 136)).alloc (.cells #[.pointer (some ⟨16, 172, none⟩), .pointer (some ⟨w.heap.size, 0, none⟩), .int .u64 150] 136)) (by rw [World.cell?_alloc_lt _ _ ⟨w.heap.size, 0, none⟩ (by simp; omega)]; simp)
 have tV := typeOfV
 have tS := typeOfES
 have aV := assignV
 have aS := assignES
 have nV := noAsV
 have nS := noAsES
 have uS := noUnwrapE
 have vS := noUnwrapsE
 have hV := hasUnwrapV
 have mU := methodUnwrap
 have el2 := elemV ⟨w.heap.size, 0, none⟩ ⟨g, 0, none⟩ ((((w.alloc (.cells #[.pointer (some ⟨g, 0, none⟩)] 172)).alloc (.cells #[.pointer (some ⟨16, 172, none⟩), .pointer (some ⟨w.heap.size, 0, none⟩), .int .u64 150] 136)).alloc (.cells #[.pointer (some ⟨16, 172, none⟩), .pointer (some ⟨w.heap.size, 0, none⟩), .int .u64 150] 136)).alloc (.cells #[x, .iface 171 (.agg #[y])] 124)) (by rw [World.cell?_alloc_lt _ _ ⟨w.heap.size, 0, none⟩ (by simp; omega), World.cell?_alloc_lt _ _ ⟨w.heap.size, 0, none⟩ (by simp; omega)]; simp)
 have st := setW g (w.heap.size + 1 + 1 + 1 + 1) old0 y (0, 0) (((((w.alloc (.cells #[.pointer (some ⟨g, 0, none⟩)] 172)).alloc (.cells #[.pointer (some ⟨16, 172, none⟩), .pointer (some ⟨w.heap.size, 0, none⟩), .int .u64 150] 136)).alloc (.cells #[.pointer (some ⟨16, 172, none⟩), .pointer (some ⟨w.heap.size, 0, none⟩), .int .u64 150] 136)).alloc (.cells #[x, .iface 171 (.agg #[y])] 124)).alloc (.cells #[y] 171)) hy (by have := World.alloc_heap_new ((((w.alloc (.cells #[.pointer (some ⟨g, 0, none⟩)] 172)).alloc (.cells #[.pointer (some ⟨16, 172, none⟩), .pointer (some ⟨w.heap.size, 0, none⟩), .int .u64 150] 136)).alloc (.cells #[.pointer (some ⟨16, 172, none⟩), .pointer (some ⟨w.heap.size, 0, none⟩), .int .u64 150] 136)).alloc (.cells #[x, .iface 171 (.agg #[y])] 124)) (.cells #[y] 171); simpa using this) (by rw [Below.heap_alloc _ _ _ (by simp; omega), Below.heap_alloc _ _ _ (by simp; omega), Below.heap_alloc _ _ _ (by simp; omega), Below.heap_alloc _ _ _ (by simp; omega), Below.heap_alloc _ _ _ hlt]; exact ht)
 go_enter Tryz.func62, Tryz.ntmps62
 go_wp2
 refine wp_loop_rounds 2 ?_
 rw [rounds_succ]
 go_wp2
 rw [rounds_succ]
 go_wp2
 go_ret
 refine ⟨rfl, ?_, ?_⟩
 ·exact below_setRow (((((((Below.refl g w).alloc (by omega) _).alloc (by simp; omega) _).alloc (by simp; omega) _).alloc (by simp; omega) _).alloc (by simp; omega) _)) (Nat.le_refl _) _
 ·refine setRow_heap _ g #[old0] _ _ _ ?_
  rw [Below.heap_alloc _ _ _ (by simp; omega), Below.heap_alloc _ _ _ (by simp; omega), Below.heap_alloc _ _ _ (by simp; omega), Below.heap_alloc _ _ _ (by simp; omega), Below.heap_alloc _ _ _ hlt]; exact ht
set_option maxHeartbeats 4000000 in
set_option maxRecDepth 100000 in
theorem as_miss (g : Nat) (old0 x : Value) (b : Addr) (w : World) (hg : w.cell? ⟨4, 0, none⟩ = some (.iface 178 (.agg #[.pointer (some ⟨16, 61, none⟩)])))
  (ht : w.heap[g]? = some (.cells #[old0] 171 (0, 0))) :
  Calls Tryz.prog 62 #[.iface 124 (.agg #[x, .iface 266 (.pointer (some b))]), .iface 172 (.pointer (some ⟨g, 0, none⟩))] w fun ev w' => ev = .returned (.bool false) ∧ Below w.heap.size w w' := by
 have h6 := @run_callFunc_extern Tryz.prog 89 _ (fun args => ReflectliteValue.unpack (args.getD 0 (.tuple #[]))) Tryz.func89 (by kernel_rfl) (by kernel_rfl) (by kernel_rfl) (by kernel_rfl)
 have h7 := @run_callFunc_extern Tryz.prog 90 _ (ReflectliteValue.methodAny (ReflectliteValue.valueError "reflectlite.Value.Type" 0) (fun t _ _ _ => ReflectliteType.toType t)) Tryz.func90 (by kernel_rfl) (by kernel_rfl) (by kernel_rfl) (by kernel_rfl)
 have h8 := @run_callFunc_extern Tryz.prog 91 _ (ReflectliteValue.method (ReflectliteValue.valueError "reflectlite.Value.IsNil" 0) ReflectliteValue.isNil) Tryz.func91 (by kernel_rfl) (by kernel_rfl) (by kernel_rfl) (by kernel_rfl)
 have h27 := @run_callFunc_extern Tryz.prog 192 _ (ReflectliteType.abiMethod fun t => do pure (.int .u8 (← Rtype.kind t))) Tryz.func192 (by kernel_rfl) (by kernel_rfl) (by kernel_rfl) (by kernel_rfl)
 have h37 := @run_callFunc_extern Tryz.prog 209 _ (ReflectliteType.method ReflectliteType.elem) Tryz.func209 (by kernel_rfl) (by kernel_rfl) (by kernel_rfl) (by kernel_rfl)
 have h38 := @run_callFunc_extern Tryz.prog 210 _ (ReflectliteType.relation "Implements" ReflectliteType.implements_) Tryz.func210 (by kernel_rfl) (by kernel_rfl) (by kernel_rfl) (by kernel_rfl)
 have h10 := @run_callFunc_extern Tryz.prog 87 _ ReflectliteType.typeOf Tryz.func87 (by kernel_rfl) (by kernel_rfl) (by kernel_rfl) (by kernel_rfl)
 have h35 := @run_callFunc_extern Tryz.prog 207 _ (ReflectliteType.relation "AssignableTo" ReflectliteType.assignableTo) Tryz.func207 (by kernel_rfl) (by kernel_rfl) (by kernel_rfl) (by kernel_rfl)
 have h11 := @run_callFunc_extern Tryz.prog 119 _ (ReflectliteValue.method (ReflectliteValue.valueError "reflectlite.Value.Elem" 0) ReflectliteValue.elem) Tryz.func119 (by kernel_rfl) (by kernel_rfl) (by kernel_rfl) (by kernel_rfl)
 have h12 := @run_callFunc_extern Tryz.prog 120 _ ReflectliteValue.set Tryz.func120 (by kernel_rfl) (by kernel_rfl) (by kernel_rfl) (by kernel_rfl)
 have tO := typeOfW
 have mA := methodAssignableTo
 have a25 := assignW
 have v25 := valueOfW
 have f6 := valueOfP
 have f7 := typeP
 have mK := methodKind
 have mE := methodElem
 have mI := methodImplements
 have k27 := kindP
 have k25 := kindW
 have e27 := elemP
 have i25 := implementsW
 have hlt : g < w.heap.size := by
  rcases Nat.lt_or_ge g w.heap.size with h | h
  ·exact h
  ·simp [Array.getElem?_eq_none h] at ht
 have hgg : 4 < w.heap.size := by
  rcases Nat.lt_or_ge 4 w.heap.size with h | h
  ·exact h
  ·simp [World.cell?, Array.getElem?_eq_none h] at hg
 have hg2 : ((w.alloc (.cells #[.pointer (some ⟨g, 0, none⟩)] 172)).alloc (.cells #[.pointer (some ⟨16, 172, none⟩), .pointer (some ⟨w.heap.size, 0, none⟩), .int .u64 150] 136)).cell? ⟨4, 0, none⟩ = some (.iface 178 (.agg #[.pointer (some ⟨16, 61, none⟩)])) := by
  rw [World.cell?_alloc_lt _ _ ⟨4, 0, none⟩ (by simp; omega), World.cell?_alloc_lt _ _ ⟨4, 0, none⟩ hgg]; exact hg
 have n8 := isNil ⟨w.heap.size, 0, none⟩ ⟨g, 0, none⟩ ((w.alloc (.cells #[.pointer (some ⟨g, 0, none⟩)] 172)).alloc (.cells #[.pointer (some ⟨16, 172, none⟩), .pointer (some ⟨w.heap.size, 0, none⟩), .int .u64 150] 136)) (by simp)
 have el := elemV ⟨w.heap.size, 0, none⟩ ⟨g, 0, none⟩ (((w.alloc (.cells #[.pointer (some ⟨g, 0, none⟩)] 172)).alloc (.cells #[.pointer (some ⟨16, 172, none⟩), .pointer (some ⟨w.heap.size, 0, none⟩), .int .u64 150] 136)).alloc (.cells #[.pointer (some ⟨16, 172, none⟩), .pointer (some ⟨w.heap.size, 0, none⟩), .int .u64 150] 136)) (by rw [World.cell?_alloc_lt _ _ ⟨w.heap.size, 0, none⟩ (by simp; omega)]; simp)
 have tV := typeOfV
 have tS := typeOfES
 have aV := assignV
 have aS := assignES
 have nV := noAsV
 have nS := noAsES
 have uS := noUnwrapE
 have vS := noUnwrapsE
 have hV := hasUnwrapV
 have mU := methodUnwrap
 go_enter Tryz.func62, Tryz.ntmps62
 go_wp2
 refine wp_loop_rounds 2 ?_
 rw [rounds_succ]
 go_wp2
 rw [rounds_succ]
 go_wp2
 go_ret
 exact ⟨rfl, ((((Below.refl w.heap.size w).alloc (by omega) _).alloc (by simp) _).alloc (by simp <;> omega) _).alloc (by simp <;> omega) _⟩
set_option maxRecDepth 100000 in
theorem as_nil (g : Nat) (old0 : Value) (w : World) (_ht : w.heap[g]? = some (.cells #[old0] 171 (0, 0))) :
  Calls Tryz.prog 62 #[.nilIface, .iface 172 (.pointer (some ⟨g, 0, none⟩))] w fun ev w' => ev = .returned (.bool false) ∧ Below w.heap.size w w' := by
 go_enter Tryz.func62, Tryz.ntmps62
 go_wp2
 go_ret
 exact ⟨rfl, Below.refl _ _⟩
end Go.Proofs.YtiafggoaedifdaaGreatDoor.AsTlv
/- errors.Is at an error of the package Tlv that wraps a sentinel, against a sentinel: true just if it is that one (Go's text is walked). No conditions beyond the shape of memory that each theorem names. -/
namespace Go.Proofs.YtiafggoaedifdaaGreatDoor.IsTlv
open Go.RowKit Go.Extern.Stop Go.Stop Go.Extern
theorem isTypeOf (v : Value) (w : World) : (Extern.ReflectliteType.typeOf #[.iface 266 v]).run Tryz.prog w = .ok (.iface 178 (.agg #[.pointer (some ⟨16, 266, none⟩)])) w := by kernel_rfl
def cmpEntry : Array Value → Sem Value := Extern.ReflectliteType.method fun t => do Rtype.noPackHeld "Comparable" t; pure (.bool (← typeInfo t).comparable)
theorem isComparable (w : World) : (cmpEntry #[.agg #[.pointer (some ⟨16, 266, none⟩)]]).run Tryz.prog w = .ok (.bool true) w := by kernel_rfl
theorem isMethodComparable (v : Value) (w : World) : (Go.method 396 178 v "Comparable").run Tryz.prog w = .ok (208, v) w := by kernel_rfl
theorem isComp : (Tryz.prog.info? 266).map (·.comparable) = some true := by kernel_rfl
theorem isSize : (Tryz.prog.info? 285).map (·.size) = some 1 := by kernel_rfl
theorem noIsE (v : Value) (xT : TypeId) (w : World) : (Instr.typeAssert (.iface 266 v) xT 180 true).run Tryz.prog w = .ok (.tuple #[.nilIface, .bool false]) w := run_typeAssert_lacksB Tryz.underlying180 (by kernel_rfl) (by kernel_rfl) v xT w
theorem noUnwrapE (v : Value) (xT : TypeId) (w : World) : (Instr.typeAssert (.iface 266 v) xT 183 true).run Tryz.prog w = .ok (.tuple #[.nilIface, .bool false]) w := run_typeAssert_lacksB Tryz.underlying183 (by kernel_rfl) (by kernel_rfl) v xT w
theorem noUnwrapsE (v : Value) (xT : TypeId) (w : World) : (Instr.typeAssert (.iface 266 v) xT 185 true).run Tryz.prog w = .ok (.tuple #[.nilIface, .bool false]) w := run_typeAssert_lacksB Tryz.underlying185 (by kernel_rfl) (by kernel_rfl) v xT w
theorem noIsW (v : Value) (xT : TypeId) (w : World) : (Instr.typeAssert (.iface 124 v) xT 180 true).run Tryz.prog w = .ok (.tuple #[.nilIface, .bool false]) w := run_typeAssert_lacksB Tryz.underlying180 (by kernel_rfl) (by kernel_rfl) v xT w
theorem hasUnwrapW (v : Value) (xT : TypeId) (w : World) : (Instr.typeAssert (.iface 124 v) xT 183 true).run Tryz.prog w = .ok (.tuple #[.iface 124 v, .bool true]) w := run_typeAssert_hasB Tryz.underlying183 (by kernel_rfl) v xT w
theorem methodUnwrap (v : Value) (w : World) : (Go.method 396 124 v "Unwrap").run Tryz.prog w = .ok (201, v) w := by kernel_rfl
theorem unwrap (x y : Value) (w : World) : Calls Tryz.prog 201 #[.agg #[x, y]] w fun e w' => e = .returned y ∧ w.alloc (.cells #[x, y] 124) = w' := by
 go_enter Tryz.func201, Tryz.ntmps201
 go_wp2
 go_ret
 exact ⟨rfl, rfl⟩
set_option maxRecDepth 100000 in
set_option maxHeartbeats 4000000 in
theorem is_same (x : Value) (b : Addr) (w : World) :
  Calls Tryz.prog 61 #[.iface 124 (.agg #[x, .iface 266 (.pointer (some b))]), .iface 266 (.pointer (some b))] w fun e w' => e = .returned (.bool true) ∧ w.alloc (.cells #[x, .iface 266 (.pointer (some b))] 124) = w' := by
 obtain ⟨i, hi, hcmp⟩ := Option.map_eq_some_iff.1 isComp
 obtain ⟨j, hj, hjs⟩ := Option.map_eq_some_iff.1 isSize
 have h8 := @run_callFunc_extern Tryz.prog 87 _ Extern.ReflectliteType.typeOf Tryz.func87 (by kernel_rfl) (by kernel_rfl) (by kernel_rfl) (by kernel_rfl)
 have h32 := @run_callFunc_extern Tryz.prog 208 _ cmpEntry Tryz.func208 (by kernel_rfl) (by kernel_rfl) (by kernel_rfl) (by kernel_rfl)
 have tT := isTypeOf
 have cT := isComparable
 have mR := isMethodComparable
 have nE := noIsE
 have uE := noUnwrapE
 have vE := noUnwrapsE
 have nW := noIsW
 have uW := hasUnwrapW
 have mU := methodUnwrap
 have heq := run_eql_iface_ptr_same (P := Tryz.prog) (w.alloc (.cells #[x, .iface 266 (.pointer (some b))] 124)) b Tryz.underlying61 Tryz.underlying266 hi hcmp hj
 have hty := run_eql_iface_types (P := Tryz.prog) 124 266 (.agg #[x, .iface 266 (.pointer (some b))]) (.pointer (some b)) Tryz.underlying61 (by decide) w
 clear hi hcmp hj hjs
 go_enter Tryz.func61, Tryz.ntmps61
 go_wp2
 refine wp_loop_rounds 2 ?_
 rw [rounds_succ]
 go_wp2
 rw [rounds_succ]
 go_wp2
 go_ret
 exact ⟨rfl, rfl⟩
set_option maxRecDepth 100000 in
set_option maxHeartbeats 4000000 in
theorem is_other (x : Value) (a b : Addr) (ca cb : Array Value) (ta tb : TypeId) (w : World) (hne : a ≠ b) (ha : w.heap[a.block]? = some (.cells ca ta (0, 0))) (hb : w.heap[b.block]? = some (.cells cb tb (0, 0))) :
  Calls Tryz.prog 61 #[.iface 124 (.agg #[x, .iface 266 (.pointer (some a))]), .iface 266 (.pointer (some b))] w fun e w' => e = .returned (.bool false) ∧ w.alloc (.cells #[x, .iface 266 (.pointer (some a))] 124) = w' := by
 obtain ⟨i, hi, hcmp⟩ := Option.map_eq_some_iff.1 isComp
 obtain ⟨j, hj, hjs⟩ := Option.map_eq_some_iff.1 isSize
 have h8 := @run_callFunc_extern Tryz.prog 87 _ Extern.ReflectliteType.typeOf Tryz.func87 (by kernel_rfl) (by kernel_rfl) (by kernel_rfl) (by kernel_rfl)
 have h32 := @run_callFunc_extern Tryz.prog 208 _ cmpEntry Tryz.func208 (by kernel_rfl) (by kernel_rfl) (by kernel_rfl) (by kernel_rfl)
 have tT := isTypeOf
 have cT := isComparable
 have mR := isMethodComparable
 have nE := noIsE
 have uE := noUnwrapE
 have vE := noUnwrapsE
 have nW := noIsW
 have uW := hasUnwrapW
 have mU := methodUnwrap
 have heq := run_eql_iface_ptr_other (P := Tryz.prog) (w.alloc (.cells #[x, .iface 266 (.pointer (some a))] 124)) Tryz.underlying61 Tryz.underlying266 hi hcmp hj (by rw [hjs]; decide) hne
  (by rw [show (w.alloc (.cells #[x, .iface 266 (.pointer (some a))] 124)).heap[a.block]? = w.heap[a.block]? from by show (w.heap.push _)[a.block]? = _; rw [Array.getElem?_push, if_neg (by have := (Array.getElem?_eq_some_iff.1 ha).1; omega)]]; exact ha)
  (by rw [show (w.alloc (.cells #[x, .iface 266 (.pointer (some a))] 124)).heap[b.block]? = w.heap[b.block]? from by show (w.heap.push _)[b.block]? = _; rw [Array.getElem?_push, if_neg (by have := (Array.getElem?_eq_some_iff.1 hb).1; omega)]]; exact hb)
 have hty := run_eql_iface_types (P := Tryz.prog) 124 266 (.agg #[x, .iface 266 (.pointer (some a))]) (.pointer (some b)) Tryz.underlying61 (by decide) w
 clear hi hcmp hj hjs ha hb hne
 go_enter Tryz.func61, Tryz.ntmps61
 go_wp2
 refine wp_loop_rounds 2 ?_
 rw [rounds_succ]
 go_wp2
 rw [rounds_succ]
 go_wp2
 go_ret
 exact ⟨rfl, rfl⟩
end Go.Proofs.YtiafggoaedifdaaGreatDoor.IsTlv
/- tlv.told: the number of an error. Conditions: the package's variables hold their sentinels. -/
namespace Go.Proofs.YtiafggoaedifdaaGreatDoor.ToldTlv
open Go.RowKit
theorem is_yes (x : Value) (b : Addr) (w : World) :
  Calls Tryz.prog 61 #[.iface 124 (.agg #[x, .iface 266 (.pointer (some b))]), .iface 266 (.pointer (some b))] w fun e w' => e = .returned (.bool true) ∧ Below w.heap.size w w' :=
 (IsTlv.is_same x b w).mono fun _ _ h => ⟨h.1, h.2 ▸ (Below.refl _ _).alloc (Nat.le_refl _) _⟩
theorem is_no (x : Value) {p : Nat → Addr} {w : World} (hG : Globs w p) (a b : Nat) (ha : a ∈ senNums) (hb : b ∈ senNums) (hne : a ≠ b) :
  Calls Tryz.prog 61 #[.iface 124 (.agg #[x, .iface 266 (.pointer (some (p a)))]), .iface 266 (.pointer (some (p b)))] w fun e w' => e = .returned (.bool false) ∧ Below w.heap.size w w' := by
 obtain ⟨ca, ta, h1⟩ := hG.blk a ha
 obtain ⟨cb, tb, h2⟩ := hG.blk b hb
 exact (IsTlv.is_other x (p a) (p b) ca cb ta tb w (hG.inj a b ha hb hne) h1 h2).mono fun _ _ h => ⟨h.1, h.2 ▸ (Below.refl _ _).alloc (Nat.le_refl _) _⟩
set_option maxRecDepth 100000 in
theorem is_nil (b : Addr) (w : World) :
  Calls Tryz.prog 61 #[.nilIface, .iface 266 (.pointer (some b))] w fun e w' => e = .returned (.bool false) ∧ w = w' := by
 have hnl := fun w => run_eql_iface_nil_left (P := Tryz.prog) (w := w) 266 (.pointer (some b)) Tryz.underlying61
 go_enter Tryz.func61, Tryz.ntmps61
 go_wp2
 go_ret
 exact ⟨rfl, rfl⟩
set_option maxHeartbeats 1000000 in
theorem told_len (n e : Int) (w : World) (p : Nat → Addr) (h : Globs w p) :
  Calls Tryz.prog 83 #[.iface 124 (.agg #[.int .i64 n, .iface 171 (.agg #[.int .i64 e])])] w fun ev w' => ev = .returned (.int .i64 e) ∧ Below w.heap.size w w' := by
 go_enter Tryz.func83, Tryz.ntmps83
 go_wp2_with fail
 have h1 : Below w.heap.size w (w.alloc (.cells #[.int .i64 0] 171)) := below_new _ _
 refine (AsTlv.as_inner w.heap.size (.int .i64 0) (.int .i64 n) (.int .i64 e) _ rfl (h.below h1).et (World.alloc_heap_new w _)).mono ?_
 rintro ev w0 ⟨rfl, hb, hc⟩
 have c0 : w0.cell? ⟨w.heap.size, 0, none⟩ = some (.int .i64 e) := cel hc 0 rfl
 have H0 := Aside.mk (h1.trans hb)
 clear h h1 hb hc
 go_wp2
 go_ret
 exact ⟨rfl, H0.out⟩
set_option maxHeartbeats 1000000 in
theorem told_errShort (n : Int) (w : World) (p : Nat → Addr) (h : Globs w p) :
  Calls Tryz.prog 83 #[.iface 124 (.agg #[.int .i64 n, .iface 266 (.pointer (some (p 5)))])] w fun e w' => e = .returned (.int .i64 10) ∧ Below w.heap.size w w' := by
 go_enter Tryz.func83, Tryz.ntmps83
 go_wp2_with fail
 have h1 : Below w.heap.size w (w.alloc (.cells #[.int .i64 0] 171)) := below_new _ _
 refine (AsTlv.as_miss w.heap.size (.int .i64 0) (.int .i64 n) _ _ (h.below h1).et (World.alloc_heap_new w _)).mono ?_
 rintro e w0 ⟨rfl, hb⟩
 have H0 := Aside.mk (below_then h1 hb)
 have h0 := h.below H0.out
 clear h h1 hb
 have k0 := h0.cell 5 (by decide)
 go_wp2_with fail
 refine (is_yes _ _ _).mono ?_
 rintro e w1 ⟨rfl, hb⟩
 have H1 := Aside.mk (below_then H0.out hb)
 have h1 := h0.below hb
 clear k0 hb H0 h0
 go_wp2
 go_ret
 exact ⟨rfl, H1.out⟩
set_option maxHeartbeats 1000000 in
theorem told_errForm (n : Int) (w : World) (p : Nat → Addr) (h : Globs w p) :
  Calls Tryz.prog 83 #[.iface 124 (.agg #[.int .i64 n, .iface 266 (.pointer (some (p 2)))])] w fun e w' => e = .returned (.int .i64 11) ∧ Below w.heap.size w w' := by
 go_enter Tryz.func83, Tryz.ntmps83
 go_wp2_with fail
 have h1 : Below w.heap.size w (w.alloc (.cells #[.int .i64 0] 171)) := below_new _ _
 refine (AsTlv.as_miss w.heap.size (.int .i64 0) (.int .i64 n) _ _ (h.below h1).et (World.alloc_heap_new w _)).mono ?_
 rintro e w0 ⟨rfl, hb⟩
 have H0 := Aside.mk (below_then h1 hb)
 have h0 := h.below H0.out
 clear h h1 hb
 have k0 := h0.cell 5 (by decide)
 go_wp2_with fail
 refine (is_no _ h0 2 5 (by decide) (by decide) (by decide)).mono ?_
 rintro e w1 ⟨rfl, hb⟩
 have H1 := Aside.mk (below_then H0.out hb)
 have h1 := h0.below hb
 clear k0 hb H0 h0
 have k0 := h1.cell 2 (by decide)
 go_wp2_with fail
 refine (is_yes _ _ _).mono ?_
 rintro e w2 ⟨rfl, hb⟩
 have H2 := Aside.mk (below_then H1.out hb)
 have h2 := h1.below hb
 clear k0 hb H1 h1
 go_wp2
 go_ret
 exact ⟨rfl, H2.out⟩
set_option maxHeartbeats 1000000 in
theorem told_errTag (n : Int) (w : World) (p : Nat → Addr) (h : Globs w p) :
  Calls Tryz.prog 83 #[.iface 124 (.agg #[.int .i64 n, .iface 266 (.pointer (some (p 6)))])] w fun e w' => e = .returned (.int .i64 20) ∧ Below w.heap.size w w' := by
 go_enter Tryz.func83, Tryz.ntmps83
 go_wp2_with fail
 have h1 : Below w.heap.size w (w.alloc (.cells #[.int .i64 0] 171)) := below_new _ _
 refine (AsTlv.as_miss w.heap.size (.int .i64 0) (.int .i64 n) _ _ (h.below h1).et (World.alloc_heap_new w _)).mono ?_
 rintro e w0 ⟨rfl, hb⟩
 have H0 := Aside.mk (below_then h1 hb)
 have h0 := h.below H0.out
 clear h h1 hb
 have k0 := h0.cell 5 (by decide)
 go_wp2_with fail
 refine (is_no _ h0 6 5 (by decide) (by decide) (by decide)).mono ?_
 rintro e w1 ⟨rfl, hb⟩
 have H1 := Aside.mk (below_then H0.out hb)
 have h1 := h0.below hb
 clear k0 hb H0 h0
 have k0 := h1.cell 2 (by decide)
 go_wp2_with fail
 refine (is_no _ h1 6 2 (by decide) (by decide) (by decide)).mono ?_
 rintro e w2 ⟨rfl, hb⟩
 have H2 := Aside.mk (below_then H1.out hb)
 have h2 := h1.below hb
 clear k0 hb H1 h1
 have k0 := h2.cell 6 (by decide)
 go_wp2_with fail
 refine (is_yes _ _ _).mono ?_
 rintro e w3 ⟨rfl, hb⟩
 have H3 := Aside.mk (below_then H2.out hb)
 have h3 := h2.below hb
 clear k0 hb H2 h2
 go_wp2
 go_ret
 exact ⟨rfl, H3.out⟩
set_option maxHeartbeats 1000000 in
theorem told_errNode (n : Int) (w : World) (p : Nat → Addr) (h : Globs w p) :
  Calls Tryz.prog 83 #[.iface 124 (.agg #[.int .i64 n, .iface 266 (.pointer (some (p 3)))])] w fun e w' => e = .returned (.int .i64 21) ∧ Below w.heap.size w w' := by
 go_enter Tryz.func83, Tryz.ntmps83
 go_wp2_with fail
 have h1 : Below w.heap.size w (w.alloc (.cells #[.int .i64 0] 171)) := below_new _ _
 refine (AsTlv.as_miss w.heap.size (.int .i64 0) (.int .i64 n) _ _ (h.below h1).et (World.alloc_heap_new w _)).mono ?_
 rintro e w0 ⟨rfl, hb⟩
 have H0 := Aside.mk (below_then h1 hb)
 have h0 := h.below H0.out
 clear h h1 hb
 have k0 := h0.cell 5 (by decide)
 go_wp2_with fail
 refine (is_no _ h0 3 5 (by decide) (by decide) (by decide)).mono ?_
 rintro e w1 ⟨rfl, hb⟩
 have H1 := Aside.mk (below_then H0.out hb)
 have h1 := h0.below hb
 clear k0 hb H0 h0
 have k0 := h1.cell 2 (by decide)
 go_wp2_with fail
 refine (is_no _ h1 3 2 (by decide) (by decide) (by decide)).mono ?_
 rintro e w2 ⟨rfl, hb⟩
 have H2 := Aside.mk (below_then H1.out hb)
 have h2 := h1.below hb
 clear k0 hb H1 h1
 have k0 := h2.cell 6 (by decide)
 go_wp2_with fail
 refine (is_no _ h2 3 6 (by decide) (by decide) (by decide)).mono ?_
 rintro e w3 ⟨rfl, hb⟩
 have H3 := Aside.mk (below_then H2.out hb)
 have h3 := h2.below hb
 clear k0 hb H2 h2
 have k0 := h3.cell 3 (by decide)
 go_wp2_with fail
 refine (is_yes _ _ _).mono ?_
 rintro e w4 ⟨rfl, hb⟩
 have H4 := Aside.mk (below_then H3.out hb)
 have h4 := h3.below hb
 clear k0 hb H3 h3
 go_wp2
 go_ret
 exact ⟨rfl, H4.out⟩
set_option maxHeartbeats 1000000 in
theorem told_nil (w : World) (p : Nat → Addr) (h : Globs w p) :
  Calls Tryz.prog 83 #[.nilIface] w fun e w' => e = .returned (.int .i64 0) ∧ Below w.heap.size w w' := by
 go_enter Tryz.func83, Tryz.ntmps83
 go_wp2_with fail
 have h1 : Below w.heap.size w (w.alloc (.cells #[.int .i64 0] 171)) := below_new _ _
 refine (AsTlv.as_nil w.heap.size (.int .i64 0) _ (World.alloc_heap_new w _)).mono ?_
 rintro e w0 ⟨rfl, hb⟩
 have H0 := Aside.mk (below_then h1 hb)
 have h0 := h.below H0.out
 clear h h1 hb
 have k0 := h0.cell 5 (by decide)
 go_wp2_with fail
 refine (is_nil _ _).mono ?_
 rintro e w1 ⟨rfl, rfl⟩
 have h1 := h0
 have H1 := H0
 clear k0 H0 h0
 have k0 := h1.cell 2 (by decide)
 go_wp2_with fail
 refine (is_nil _ _).mono ?_
 rintro e w2 ⟨rfl, rfl⟩
 have h2 := h1
 have H2 := H1
 clear k0 H1 h1
 have k0 := h2.cell 6 (by decide)
 go_wp2_with fail
 refine (is_nil _ _).mono ?_
 rintro e w3 ⟨rfl, rfl⟩
 have h3 := h2
 have H3 := H2
 clear k0 H2 h2
 have k0 := h3.cell 3 (by decide)
 go_wp2_with fail
 refine (is_nil _ _).mono ?_
 rintro e w4 ⟨rfl, rfl⟩
 have h4 := h3
 have H4 := H3
 clear k0 H3 h3
 go_wp2
 go_ret
 exact ⟨rfl, H4.out⟩
end Go.Proofs.YtiafggoaedifdaaGreatDoor.ToldTlv
/- tlv, walked: errors told. -/
namespace Go.Proofs.YtiafggoaedifdaaGreatDoor.Tl
open Go.RowKit Go.Shelf Go.Lib
open Fl (bl bt' bl_bt bl_of size_bl)
open Fi (one_arg)
set_option linter.unusedVariables false
variable (p : Nat → Addr)
def tErr (n : Int) (x : V) : V := .ifc 124 (.agg [.int .i64 n, x])
def shortV : V := sen p 5
def formV : V := sen p 2
def tagV : V := sen p 6
def nodeV : V := sen p 3
def lenV (e : Nat) : V := .ifc 171 (.agg [.int .i64 (e : Nat)])
def teV : TE → V
 | .short => shortV p
 | .tag => tagV p
 | .node => nodeV p
 | .len e => lenV e
theorem told_nil_fn : Fn Tryz.prog (envX p) 83 [.v .nili] (.v (.int .i64 0)) :=
 Fn.of_plain (enter_of (by kernel_rfl)) rfl fun w L vs hE ha => by
  obtain ⟨v, rfl, h⟩ := one_arg ha
  rw [show v = .nilIface from h]
  exact ToldTlv.told_nil w p hE.gl
theorem told_any (n : Int) (x : V) (val : Value) (hx : ∀ w L u, Rep w L x u → u = val) (code : Int) (hc : ∀ w : World, Globs w p → Calls Tryz.prog 83 #[.iface 124 (.agg #[.int .i64 n, val])] w fun e w' => e = .returned (.int .i64 code) ∧ Below w.heap.size w w') : Fn Tryz.prog (envX p) 83 [.v (tErr n x)] (.v (.int .i64 code)) :=
 Fn.of_plain (enter_of (by kernel_rfl)) rfl fun w L vs hE ha => by
  obtain ⟨v, rfl, h⟩ := one_arg ha
  obtain ⟨u, rfl, cs, rfl, h1⟩ := h
  obtain ⟨u, us, h2, _, h3, u', us', h4, _, h5, h6⟩ := h1
  have : cs = #[.int .i64 n, val] := by
   rw [h4, show us' = [] from h6, show u = _ from h3, hx _ _ _ h5] at h2
   exact Array.toList_inj.1 h2
  rw [this]
  exact hc w hE.gl
theorem sen_val {g : Nat} {w : World} {L : Lv} {u : Value} (h : Rep w L (sen p g) u) : u = .iface 266 (.pointer (some (p g))) := by
 obtain ⟨u', rfl, h⟩ := h
 rw [show u' = _ from h]
theorem told_te (n : Int) (e : TE) : Fn Tryz.prog (envX p) 83 [.v (tErr n (teV p e))] (.v (.int .i64 (teC e : Nat))) := by
 cases e with
 | short => exact told_any p n _ _ (fun w L u h => sen_val p h) 10 (fun w h => ToldTlv.told_errShort n w p h)
 | tag => exact told_any p n _ _ (fun w L u h => sen_val p h) 20 (fun w h => ToldTlv.told_errTag n w p h)
 | node => exact told_any p n _ _ (fun w L u h => sen_val p h) 21 (fun w h => ToldTlv.told_errNode n w p h)
 | len e =>
  refine told_any p n _ (.iface 171 (.agg #[.int .i64 (e : Nat)])) (fun w L u h => ?_) _ (fun w h => ToldTlv.told_len n e w p h)
  obtain ⟨u, rfl, cs, rfl, u', us, h2, _, h3, h4⟩ := h
  rw [show us = [] from h4, show u' = _ from h3] at h2
  rw [show cs = #[.int .i64 (e : Nat)] from Array.toList_inj.1 h2]
theorem told_form (n : Int) : Fn Tryz.prog (envX p) 83 [.v (tErr n (formV p))] (.v (.int .i64 11)) := told_any p n _ _ (fun w L u h => sen_val p h) 11 (fun w h => ToldTlv.told_errForm n w p h)
theorem told_node (n : Int) : Fn Tryz.prog (envX p) 83 [.v (tErr n (nodeV p))] (.v (.int .i64 21)) := told_te p n .node
end Go.Proofs.YtiafggoaedifdaaGreatDoor.Tl
/- tlv, walked: which trees are ones, but for what is in them; equality of trees. Conditions: at most 10^8 in one. -/
namespace Go.Proofs.YtiafggoaedifdaaGreatDoor.Tl
open Go.RowKit Go.Shelf Go.Lib
open Fl (bl bt' bl_bt bl_of size_bl)
open Fi (size0)
set_option linter.unusedVariables false
variable {X : En}
theorem sames_zip : ∀ (l m : List Nd), l.length = m.length → sameNs l m = true ∨ ∃ i, ∃ (h : i < l.length) (h' : i < m.length), sameN l[i] m[i] = false := by
 intro l
 induction l with
 | nil => intro m h; cases m with
  | nil => exact .inl rfl
  | cons _ _ => simp at h
 | cons x r ih => intro m h; cases m with
  | nil => simp at h
  | cons y s =>
   cases hxy : sameN x y
   ·exact .inr ⟨0, by simp, by simp, hxy⟩
   ·rcases ih s (by simpa using h) with h1 | ⟨i, h1, h2, h3⟩
    ·exact .inl (by rw [sameNs, hxy, h1]; rfl)
    ·exact .inr ⟨i + 1, by simpa using h1, by simpa using h2, by simpa using h3⟩
theorem sames_len : ∀ (l m : List Nd), sameNs l m = true → l.length = m.length := fun l m h => by rw [(sameNs_iff l m).1 h]
theorem sames_bad {l m : List Nd} {i : Nat} (h : i < l.length) (h' : i < m.length) (hf : sameN l[i] m[i] = false) : sameNs l m = false := by
 cases hq : sameNs l m
 ·rfl
 ·have := (sameNs_iff l m).1 hq
  subst this
  rw [sameN_refl] at hf; cases hf
set_option maxHeartbeats 100000000 in
theorem eqN_fn (l m : List Nd) (hl : l.length ≤ 100000000) (hf : ∀ x ∈ l, ∀ y ∈ m, Fn Tryz.prog X 35 [.v (.agg (cM x)), .v (.agg (cM y))] (.v (.bool (sameN x y)))) : Fn Tryz.prog X 58 [.v (.sl (l.map cN)), .v (.sl (m.map cN)), .fn 35 []] (.v (.bool (sameNs l m))) := by
 refine fn_prog tabOk mixed Tryz.f58 Tryz.func58 (by kernel_rfl) (by kernel_rfl) ?_
 conv => whnf
 refine ⟨rfl, cmp_split (fun h => ?_) (fun h => ?_)⟩
 ·rw [List.length_map, List.length_map] at h
  conv => whnf
  refine ⟨.inl (congrArg V.bool ?_), rfl⟩
  cases hq : sameNs l m
  ·rfl
  ·exact absurd (by rw [sames_len l m hq]) h
 rw [List.length_map, List.length_map] at h
 have hab : l.length = m.length := by omega
 conv => whnf
 refine ⟨Nat, fun i => ⟨32, [(1, .v (.sl (m.map cN))), (2, .fn 35 []), (15, .v (.sl (l.map cN))), (16, .v (.int .i64 ((l.map cN).length : Nat))), (17, .v (.int .i64 (i : Nat)))], [], []⟩, fun i => i ≤ l.length ∧ ∀ j (h : j < i) (h1 : j < l.length) (h2 : j < m.length), sameN l[j] m[j] = true, fun i => l.length - i, ⟨0, [], ⟨by omega, fun j h => by omega⟩, ?_⟩, fun i ⟨hi, he⟩ => ?_⟩
 ·exact ⟨rfl, rfl, ⟨.inl rfl, ⟨rfl, trivial, rfl⟩, .inl rfl, .inl rfl, .inl rfl, trivial⟩, trivial, trivial⟩
 conv => whnf
 refine ⟨rfl, cmp_split (fun h => ?_) (fun h => ?_)⟩
 ·rw [List.length_map] at h
  have hil : i < l.length := by omega
  have him : i < m.length := by omega
  conv => whnf
  refine st_idxN hil ?_
  conv => whnf
  refine st_idxN him ?_
  conv => whnf
  refine st_callB (hf l[i] (List.getElem_mem hil) m[i] (List.getElem_mem him)) ⟨.inl rfl, .inl rfl, trivial⟩ rfl (fun h2 => ?_) (fun h2 => ?_)
  ·conv => whnf
   refine ⟨rfl, st_succ (by omega) ?_⟩
   conv => whnf
   refine ⟨i + 1, [], ⟨by omega, fun j hj h1 h3 => ?_⟩, by dsimp only; omega, ?_⟩
   ·by_cases e : j = i
    ·subst e; exact h2
    ·exact he j (by omega) h1 h3
   ·exact ⟨rfl, rfl, ⟨.inl rfl, ⟨rfl, trivial, rfl⟩, .inl rfl, .inl rfl, .inl rfl, trivial⟩, trivial, trivial⟩
  ·conv => whnf
   exact ⟨.inl (congrArg V.bool (sames_bad hil him h2).symm), rfl⟩
 ·rw [List.length_map] at h
  conv => whnf
  refine ⟨.inl (congrArg V.bool ?_), rfl⟩
  rcases sames_zip l m hab with h1 | ⟨j, h1, h2, h3⟩
  ·exact h1.symm
  ·rw [he j (by omega) h1 h2] at h3; cases h3
mutual
theorem same_fn : ∀ (x : Nd) (y : Nd), midN x → midN y → Fn Tryz.prog X 35 [.v (.agg (cM x)), .v (.agg (cM y))] (.v (.bool (sameN x y)))
 | .mk t d k, y, hx, hy => by
  have hl := same_fns k
  obtain ⟨x1, x2⟩ := hx
  obtain ⟨y1, y2⟩ := midN_at hy
  have hF := eqN_fn k y.kids (by omega) (fun z hz u hu => hl z hz u (midNs_mem x2 z hz) (midNs_mem y2 u hu))
  rw [show sameN (.mk t d k) y = (decide (t = y.tag) && (decide (d = y.data) && sameNs k y.kids)) by cases y; rfl]
  refine fn_prog tabOk mixed Tryz.f35 Tryz.func35 (by kernel_rfl) (by kernel_rfl) ?_
  conv => whnf
  (repeat' (first | ((refine cmp_split (fun h => ?_) (fun h => ?_)) <;> (conv => whnf)) | ((refine ⟨rfl, cmp_split (fun h => ?_) (fun h => ?_)⟩) <;> (conv => whnf)) | (((with_reducible apply st_callB (hF)); (focus (repeat' first|exact trivial|exact rfl|exact .inl rfl|exact .inr ⟨rfl,rfl⟩|refine And.intro ?_ ?_)); (focus (exact rfl)); (all_goals intro h)) <;> (conv => whnf)) | fail))
  all_goals
   refine ⟨.inl (congrArg V.bool ?_), rfl⟩
   clear hl x1 x2 y1 y2 hF
   clear hy
   simp only [show (Nd.mk t d k).tag = t from rfl, show (Nd.mk t d k).data = d from rfl] at *
   simp [*]
theorem same_fns : ∀ (l : List Nd), ∀ z ∈ l, ∀ (y : Nd), midN z → midN y → Fn Tryz.prog X 35 [.v (.agg (cM z)), .v (.agg (cM y))] (.v (.bool (sameN z y)))
 | [], z, hz, _ => by cases hz
 | x :: r, z, hz, y => by
  intro h1 h2
  have hx := same_fn x
  have hr := same_fns r
  rcases List.mem_cons.1 hz with e | hz
  ·rw [e] at h1 ⊢; exact hx y h1 h2
  ·exact hr z hz y h1 h2
end
theorem and32 : ∀ t : Nat, t < 256 → bitV .and .i64 (t : Nat) 32 = if innerN t then 32 else 0 := by decide +kernel
theorem and31 : ∀ t : Nat, t < 256 → bitV .and .i64 (t : Nat) 31 = ((t % 32 : Nat) : Int) := by decide +kernel
theorem inner_fn (t : Nat) (h : t < 256) : Fn Tryz.prog X 116 [.v (.int .i64 (t : Nat))] (.v (.bool (innerN t))) := by
 refine fn_prog tabOk mixed Tryz.f116 Tryz.func116 (by kernel_rfl) (by kernel_rfl) ?_
 conv => whnf
 refine ⟨rfl, _, and32 t h, ?_⟩
 cases hi : innerN t
 ·rw [if_neg (by decide)]
  conv => whnf
  refine ⟨rfl, cmp_false (by decide) ?_⟩
  conv => whnf
  exact ⟨.inl rfl, rfl⟩
 ·rw [if_pos rfl]
  conv => whnf
  refine ⟨rfl, cmp_true (by decide) ?_⟩
  conv => whnf
  exact ⟨.inl rfl, rfl⟩
theorem oneN_val (x : Nd) : oneN x = (decide (0 ≤ x.tag) && (decide (x.tag ≤ 255) && (decide (x.tag.toNat % 32 ≠ 31) && if innerN x.tag.toNat then decide (x.data.size = 0) else x.kids.isEmpty))) := by cases x; rfl
theorem one_fn (x : Nd) : Fn Tryz.prog X 85 [.v (.agg (cM x))] (.v (.bool (oneN x))) := by
 rw [oneN_val]
 refine fn_prog tabOk mixed Tryz.f85 Tryz.func85 (by kernel_rfl) (by kernel_rfl) ?_
 conv => whnf
 refine ⟨rfl, cmp_split (fun h => ?_) (fun h => ?_)⟩
 ·conv => whnf
  exact ⟨.inl (by rw [decide_eq_false (by omega)]; rfl), rfl⟩
 conv => whnf
 refine ⟨rfl, cmp_split (fun h2 => ?_) (fun h2 => ?_)⟩
 ·conv => whnf
  exact ⟨.inl (by rw [decide_eq_true (by omega : 0 ≤ x.tag), decide_eq_false (by omega)]; rfl), rfl⟩
 rw [decide_eq_true (by omega : 0 ≤ x.tag), decide_eq_true (by omega : x.tag ≤ 255), Bool.true_and, Bool.true_and]
 obtain ⟨t, ht⟩ : ∃ t : Nat, x.tag = (t : Nat) := ⟨x.tag.toNat, by omega⟩
 have ht2 : t < 256 := by omega
 have hin := inner_fn (X := X) t ht2
 rw [ht, Int.toNat_natCast]
 conv => whnf
 refine ⟨rfl, _, and31 t ht2, ?_⟩
 conv => whnf
 refine ⟨rfl, cmp_split (fun h3 => ?_) (fun h3 => ?_)⟩
 ·conv => whnf
  exact ⟨.inl (by rw [decide_eq_false (by omega)]; rfl), rfl⟩
 rw [decide_eq_true (by omega : t % 32 ≠ 31), Bool.true_and]
 conv => whnf
 cases hi : innerN t
 ·rw [hi] at hin
  (refine st_call hin ?_ rfl rfl ?_; (focus (repeat' first|exact trivial|exact rfl|exact .inl rfl|exact .inr ⟨rfl,rfl⟩|refine And.intro ?_ ?_)); conv => whnf)
  rw [if_neg (by decide)]
  refine ⟨rfl, cmp_split (fun h4 => ?_) (fun h4 => ?_)⟩
  ·conv => whnf
   rw [List.length_map] at h4
   exact ⟨.inl (congrArg V.bool (List.isEmpty_iff.2 (List.eq_nil_of_length_eq_zero (by omega))).symm), rfl⟩
  ·conv => whnf
   rw [List.length_map] at h4
   exact ⟨.inl (congrArg V.bool (by cases hk : x.kids with | nil => rw [hk] at h4; exact absurd rfl h4 | cons _ _ => rfl)), rfl⟩
 ·rw [hi] at hin
  (refine st_call hin ?_ rfl rfl ?_; (focus (repeat' first|exact trivial|exact rfl|exact .inl rfl|exact .inr ⟨rfl,rfl⟩|refine And.intro ?_ ?_)); conv => whnf)
  rw [if_pos rfl]
  refine cmp_split (fun h4 => ?_) (fun h4 => ?_)
  ·conv => whnf
   exact ⟨.inl (congrArg V.bool (decide_eq_true (size0.2 h4)).symm), rfl⟩
  ·conv => whnf
   exact ⟨.inl (congrArg V.bool (decide_eq_false (fun e => h4 (size0.1 e))).symm), rfl⟩
end Go.Proofs.YtiafggoaedifdaaGreatDoor.Tl
