/- Several texts, one behind the other. errors.As and errors.Is at an error type of the package Fber: a struct of one cell (Go's text of both is walked). No conditions beyond the shape of memory that each theorem names. errors.Is at an error of the package Fber that wraps the package's sentinel, against a sentinel: true just if it is that one (Go's text is walked). No conditions beyond the shape of memory that each theorem names. fber.told: the number of an error of the package fber. Conditions: the package's variable holds its sentinel. fber, walked: errors told; leaves. fber, walked: trees of pieces, of items. Conditions: at most 10^6 texts. filt, walked: right filters printed. filt, walked: Print. Conditions: texts of at most 10^8 bytes. filt, walked: values told as zero values; right filters are not too large. -/
import Derived.Test.YtiafggoaedifdaaGreatDoorProg
import Derived.WalkKit
import Derived.Below
import Derived.KernelRfl
import Derived.LaidEql
import Derived.Stop.Asserts
import Derived.RowKitTokens
import Derived.Outline
import Derived.Laws.Rows
import Derived.RangeFuncRecord
import Derived.Laws.Tables
import Derived.Test.YtiafggoaedifdaaGreatDoorP01
import Derived.Test.YtiafggoaedifdaaGreatDoorP24
import Derived.Test.YtiafggoaedifdaaGreatDoorP27
/- errors.As and errors.Is at an error type of the package Fber: a struct of one cell (Go's text of both is walked). No conditions beyond the shape of memory that each theorem names. -/
namespace Go.Proofs.YtiafggoaedifdaaGreatDoor.AsFber
open Go.RowKit Go.Extern.Stop Go.Stop Go.Extern
theorem rlm (z : Sem Value) (f : TypeId → Addr → Nat → Nat → Sem Value) (v : Value) :
  ReflectliteValue.method z f #[v] = (do match ← ReflectliteValue.parts v with | none => z | some (t, a, fl) => f t a fl (fl % 32)) := rfl
theorem rls (v x : Value) : ReflectliteValue.set #[v, x] = (do
  let (some (dst, a, fl), some (src, b, _)) := (← ReflectliteValue.parts v, ← ReflectliteValue.parts x)
   | unsupported (.noEntry "extern/(internal/reflectlite.Value).Set.zeroValue")
  if fl / ReflectliteValue.flagAddr % 2 == 0 then unsupported (.noEntry "extern/(internal/reflectlite.Value).Set.unaddressable")
  let val ← loadVar src b
  if ← Rtype.directlyAssignable dst src then storeVar dst a val
  else if ← Rtype.implements dst src then
   if (← Rtype.kind src) == 20 then
    match val with
    | .nilIface => unsupported (.noEntry "extern/reflectlite: a nil value of one interface type handed on as a value of another")
    | _ => storeVar dst a val
   else storeVar dst a (.iface src val)
  else panicString ("reflectlite.Set: value of type " ++ (← Rtype.spelt src) ++ " is not assignable to type " ++ (← Rtype.spelt dst))
  pure (.tuple #[])) := rfl
theorem below_setRow {B g : Nat} {w w' : World} (h : Below B w w') (hB : B ≤ g) (cs : Array Value) : Below B w (w'.setRow g cs) :=
 h.trans ⟨rfl, rfl, rfl, by simp [World.setRow], fun k hk => by simp only [World.setRow, Array.getElem?_modify]; rw [if_neg (by omega)]⟩
theorem valueOfP (t : Addr) (w : World) : (ReflectliteValue.unpack (.iface 117 (.pointer (some t)))).run Tryz.prog w
  = .ok (.agg #[.pointer (some ⟨16, 117, none⟩), .pointer (some ⟨w.heap.size, 0, none⟩), .int .u64 150]) (w.alloc (.cells #[.pointer (some t)] 117)) := by kernel_rfl
theorem typeP (a : Addr) (w : World) : (ReflectliteValue.methodAny (ReflectliteValue.valueError "reflectlite.Value.Type" 0) (fun t _ _ _ => ReflectliteType.toType t) #[.agg #[.pointer (some ⟨16, 117, none⟩), .pointer (some a), .int .u64 150]]).run Tryz.prog w
  = .ok (.iface 178 (.agg #[.pointer (some ⟨16, 117, none⟩)])) w := by kernel_rfl
theorem elemP (w : World) : (ReflectliteType.method ReflectliteType.elem #[.agg #[.pointer (some ⟨16, 117, none⟩)]]).run Tryz.prog w = .ok (.iface 178 (.agg #[.pointer (some ⟨16, 81, none⟩)])) w := by kernel_rfl
theorem kindP (w : World) : ((ReflectliteType.abiMethod fun t => (fun a : Nat => Value.int IntKind.u8 (a : Int)) <$> Rtype.kind t) #[.pointer (some ⟨16, 117, none⟩)]).run Tryz.prog w = .ok (.int .u8 22) w := by kernel_rfl
theorem kindW (w : World) : ((ReflectliteType.abiMethod fun t => (fun a : Nat => Value.int IntKind.u8 (a : Int)) <$> Rtype.kind t) #[.pointer (some ⟨16, 81, none⟩)]).run Tryz.prog w = .ok (.int .u8 25) w := by kernel_rfl
theorem implementsW (w : World) : (ReflectliteType.relation "Implements" ReflectliteType.implements_ #[.agg #[.pointer (some ⟨16, 81, none⟩)], .iface 178 (.agg #[.pointer (some ⟨16, 61, none⟩)])]).run Tryz.prog w = .ok (.bool true) w := by kernel_rfl
theorem typeOfW (v : Value) (w : World) : (ReflectliteType.typeOf #[.iface 81 v]).run Tryz.prog w = .ok (.iface 178 (.agg #[.pointer (some ⟨16, 81, none⟩)])) w := by kernel_rfl
theorem assignW (w : World) : (ReflectliteType.relation "AssignableTo" ReflectliteType.assignableTo #[.agg #[.pointer (some ⟨16, 81, none⟩)], .iface 178 (.agg #[.pointer (some ⟨16, 81, none⟩)])]).run Tryz.prog w = .ok (.bool true) w := by kernel_rfl
theorem valueOfW (x : Value) (w : World) : (ReflectliteValue.unpack (.iface 81 (.agg #[x]))).run Tryz.prog w
  = .ok (.agg #[.pointer (some ⟨16, 81, none⟩), .pointer (some ⟨w.heap.size, 0, none⟩), .int .u64 153]) (w.alloc (.cells #[x] 81)) := by kernel_rfl
theorem methodKind (h : Value) (w : World) : (Go.method 396 178 (.agg #[h]) "Kind").run Tryz.prog w = .ok (192, h) w := by kernel_rfl
theorem methodElem (h : Value) (w : World) : (Go.method 396 178 (.agg #[h]) "Elem").run Tryz.prog w = .ok (209, .agg #[h]) w := by kernel_rfl
theorem methodImplements (h : Value) (w : World) : (Go.method 396 178 (.agg #[h]) "Implements").run Tryz.prog w = .ok (210, .agg #[h]) w := by kernel_rfl
theorem methodAssignableTo (h : Value) (w : World) : (Go.method 396 178 (.agg #[h]) "AssignableTo").run Tryz.prog w = .ok (207, .agg #[h]) w := by kernel_rfl
theorem parts (a : Addr) (w : World) : (ReflectliteValue.parts (.agg #[.pointer (some ⟨16, 117, none⟩), .pointer (some a), .int .u64 150])).run Tryz.prog w = .ok (some (117, a, 150)) w := by kernel_rfl
theorem partsWa (a : Addr) (w : World) : (ReflectliteValue.parts (.agg #[.pointer (some ⟨16, 81, none⟩), .pointer (some a), .int .u64 409])).run Tryz.prog w = .ok (some (81, a, 409)) w := by kernel_rfl
theorem partsW (a : Addr) (w : World) : (ReflectliteValue.parts (.agg #[.pointer (some ⟨16, 81, none⟩), .pointer (some a), .int .u64 153])).run Tryz.prog w = .ok (some (81, a, 153)) w := by kernel_rfl
theorem elemOf (w : World) : (Rtype.elem? 117).run Tryz.prog w = .ok (some 81) w := by kernel_rfl
theorem mkW (p : Addr) (w : World) : (ReflectliteValue.mk 81 p ReflectliteValue.flagAddr).run Tryz.prog w = .ok (.agg #[.pointer (some ⟨16, 81, none⟩), .pointer (some p), .int .u64 409]) w := by kernel_rfl
theorem isNil (a p : Addr) (W : World) (ha : W.cell? a = some (.pointer (some p))) :
  (ReflectliteValue.method (ReflectliteValue.valueError "reflectlite.Value.IsNil" 0) ReflectliteValue.isNil #[.agg #[.pointer (some ⟨16, 117, none⟩), .pointer (some a), .int .u64 150]]).run Tryz.prog W = .ok (.bool false) W := by
 rw [rlm]
 simp only [Sem.run_bind, parts, Result.andThen]
 simp [ReflectliteValue.isNil, loadVar, isAgg, underlying, Tryz.underlying117, ha, Result.andThen]
theorem elemV (a p : Addr) (W : World) (ha : W.cell? a = some (.pointer (some p))) :
  (ReflectliteValue.method (ReflectliteValue.valueError "reflectlite.Value.Elem" 0) ReflectliteValue.elem #[.agg #[.pointer (some ⟨16, 117, none⟩), .pointer (some a), .int .u64 150]]).run Tryz.prog W
   = .ok (.agg #[.pointer (some ⟨16, 81, none⟩), .pointer (some p), .int .u64 409]) W := by
 rw [rlm]
 simp only [Sem.run_bind, parts, Result.andThen]
 simp [ReflectliteValue.elem, loadVar, isAgg, underlying, Tryz.underlying117, ha, Result.andThen, elemOf, mkW]
theorem direct (w : World) : (Rtype.directlyAssignable 81 81).run Tryz.prog w = .ok true w := by kernel_rfl
theorem setW (g b : Nat) (old0 x : Value) (fr : Nat × Nat) (W : World) (hx : x.oneCell' = true) (hb : W.heap[b]? = some (.cells #[x] 81 fr)) (ht : W.heap[g]? = some (.cells #[old0] 81 (0, 0))) :
  (ReflectliteValue.set #[.agg #[.pointer (some ⟨16, 81, none⟩), .pointer (some ⟨g, 0, none⟩), .int .u64 409], .agg #[.pointer (some ⟨16, 81, none⟩), .pointer (some ⟨b, 0, none⟩), .int .u64 153]]).run Tryz.prog W
   = .ok (.tuple #[]) (W.setRow g #[x]) := by
 have hl := run_loadVar_row (P := Tryz.prog) W b 81 81 #[x] fr _ hb Tryz.underlying81 rfl (by kernel_rfl)
 have hs := run_storeVar_row (P := Tryz.prog) W g 81 81 #[old0] #[x] ht (by kernel_rfl) rfl (by simp [hx])
 rw [rls]
 simp only [Sem.run_bind, partsWa, partsW, Result.andThen]
 simp [ReflectliteValue.flagAddr, hl, hs, Result.andThen, direct]
set_option maxHeartbeats 4000000 in
set_option maxRecDepth 100000 in
theorem as_hit (g : Nat) (old0 x : Value) (w : World) (hx : x.oneCell' = true) (hg : w.cell? ⟨4, 0, none⟩ = some (.iface 178 (.agg #[.pointer (some ⟨16, 61, none⟩)])))
  (ht : w.heap[g]? = some (.cells #[old0] 81 (0, 0))) :
  Calls Tryz.prog 62 #[.iface 81 (.agg #[x]), .iface 117 (.pointer (some ⟨g, 0, none⟩))] w fun ev w' => ev = .returned (.bool true) ∧ Below g w w' ∧ w'.heap[g]? = some (.cells #[x] 81 (0, 0)) := by
 have h6 := @run_callFunc_extern Tryz.prog 89 _ (fun args => ReflectliteValue.unpack (args.getD 0 (.tuple #[]))) Tryz.func89 (by kernel_rfl) (by kernel_rfl) (by kernel_rfl) (by kernel_rfl)
 have h7 := @run_callFunc_extern Tryz.prog 90 _ (ReflectliteValue.methodAny (ReflectliteValue.valueError "reflectlite.Value.Type" 0) (fun t _ _ _ => ReflectliteType.toType t)) Tryz.func90 (by kernel_rfl) (by kernel_rfl) (by kernel_rfl) (by kernel_rfl)
 have h8 := @run_callFunc_extern Tryz.prog 91 _ (ReflectliteValue.method (ReflectliteValue.valueError "reflectlite.Value.IsNil" 0) ReflectliteValue.isNil) Tryz.func91 (by kernel_rfl) (by kernel_rfl) (by kernel_rfl) (by kernel_rfl)
 have h27 := @run_callFunc_extern Tryz.prog 192 _ (ReflectliteType.abiMethod fun t => do pure (.int .u8 (← Rtype.kind t))) Tryz.func192 (by kernel_rfl) (by kernel_rfl) (by kernel_rfl) (by kernel_rfl)
 have h37 := @run_callFunc_extern Tryz.prog 209 _ (ReflectliteType.method ReflectliteType.elem) Tryz.func209 (by kernel_rfl) (by kernel_rfl) (by kernel_rfl) (by kernel_rfl)
 have h38 := @run_callFunc_extern Tryz.prog 210 _ (ReflectliteType.relation "Implements" ReflectliteType.implements_) Tryz.func210 (by kernel_rfl) (by kernel_rfl) (by kernel_rfl) (by kernel_rfl)
 have h10 := @run_callFunc_extern Tryz.prog 87 _ ReflectliteType.typeOf Tryz.func87 (by kernel_rfl) (by kernel_rfl) (by kernel_rfl) (by kernel_rfl)
 have h35 := @run_callFunc_extern Tryz.prog 207 _ (ReflectliteType.relation "AssignableTo" ReflectliteType.assignableTo) Tryz.func207 (by kernel_rfl) (by kernel_rfl) (by kernel_rfl) (by kernel_rfl)
 have h11 := @run_callFunc_extern Tryz.prog 119 _ (ReflectliteValue.method (ReflectliteValue.valueError "reflectlite.Value.Elem" 0) ReflectliteValue.elem) Tryz.func119 (by kernel_rfl) (by kernel_rfl) (by kernel_rfl) (by kernel_rfl)
 have h12 := @run_callFunc_extern Tryz.prog 120 _ ReflectliteValue.set Tryz.func120 (by kernel_rfl) (by kernel_rfl) (by kernel_rfl) (by kernel_rfl)
 have tO := typeOfW
 have mA := methodAssignableTo
 have a25 := assignW
 have v25 := valueOfW
 have f6 := valueOfP
 have f7 := typeP
 have mK := methodKind
 have mE := methodElem
 have mI := methodImplements
 have k27 := kindP
 have k25 := kindW
 have e27 := elemP
 have i25 := implementsW
 have hlt : g < w.heap.size := by
  rcases Nat.lt_or_ge g w.heap.size with h | h
  ·exact h
  ·simp [Array.getElem?_eq_none h] at ht
 have hgg : 4 < w.heap.size := by
  rcases Nat.lt_or_ge 4 w.heap.size with h | h
  ·exact h
  ·simp [World.cell?, Array.getElem?_eq_none h] at hg
 have hg2 : ((w.alloc (.cells #[.pointer (some ⟨g, 0, none⟩)] 117)).alloc (.cells #[.pointer (some ⟨16, 117, none⟩), .pointer (some ⟨w.heap.size, 0, none⟩), .int .u64 150] 136)).cell? ⟨4, 0, none⟩ = some (.iface 178 (.agg #[.pointer (some ⟨16, 61, none⟩)])) := by
  rw [World.cell?_alloc_lt _ _ ⟨4, 0, none⟩ (by simp; omega), World.cell?_alloc_lt _ _ ⟨4, 0, none⟩ hgg]; exact hg
 have n8 := isNil ⟨w.heap.size, 0, none⟩ ⟨g, 0, none⟩ ((w.alloc (.cells #[.pointer (some ⟨g, 0, none⟩)] 117)).alloc (.cells #[.pointer (some ⟨16, 117, none⟩), .pointer (some ⟨w.heap.size, 0, none⟩), .int .u64 150] 136)) (by simp)
 have el := elemV ⟨w.heap.size, 0, none⟩ ⟨g, 0, none⟩ (((w.alloc (.cells #[.pointer (some ⟨g, 0, none⟩)] 117)).alloc (.cells #[.pointer (some ⟨16, 117, none⟩), .pointer (some ⟨w.heap.size, 0, none⟩), .int .u64 150] 136)).alloc (.cells #[.pointer (some ⟨16, 117, none⟩), .pointer (some ⟨w.heap.size, 0, none⟩), .int .u64 150] 136)) (by rw [World.cell?_alloc_lt _ _ ⟨w.heap.size, 0, none⟩ (by simp; omega)]; simp)
 have st := setW g (w.heap.size + 1 + 1 + 1) old0 x (0, 0) ((((w.alloc (.cells #[.pointer (some ⟨g, 0, none⟩)] 117)).alloc (.cells #[.pointer (some ⟨16, 117, none⟩), .pointer (some ⟨w.heap.size, 0, none⟩), .int .u64 150] 136)).alloc (.cells #[.pointer (some ⟨16, 117, none⟩), .pointer (some ⟨w.heap.size, 0, none⟩), .int .u64 150] 136)).alloc (.cells #[x] 81)) hx (by have := World.alloc_heap_new (((w.alloc (.cells #[.pointer (some ⟨g, 0, none⟩)] 117)).alloc (.cells #[.pointer (some ⟨16, 117, none⟩), .pointer (some ⟨w.heap.size, 0, none⟩), .int .u64 150] 136)).alloc (.cells #[.pointer (some ⟨16, 117, none⟩), .pointer (some ⟨w.heap.size, 0, none⟩), .int .u64 150] 136)) (.cells #[x] 81); simpa using this) (by rw [Below.heap_alloc _ _ _ (by simp; omega), Below.heap_alloc _ _ _ (by simp; omega), Below.heap_alloc _ _ _ (by simp; omega), Below.heap_alloc _ _ _ hlt]; exact ht)
 go_enter Tryz.func62, Tryz.ntmps62
 go_wp2
 refine wp_loop_rounds 1 ?_
 rw [rounds_succ]
 go_wp2
 go_ret
 refine ⟨rfl, ?_, ?_⟩
 ·exact below_setRow ((((((Below.refl g w).alloc (by omega) _).alloc (by simp; omega) _).alloc (by simp; omega) _).alloc (by simp; omega) _)) (Nat.le_refl _) _
 ·refine setRow_heap _ g #[old0] _ _ _ ?_
  rw [Below.heap_alloc _ _ _ (by simp; omega), Below.heap_alloc _ _ _ (by simp; omega), Below.heap_alloc _ _ _ (by simp; omega), Below.heap_alloc _ _ _ hlt]; exact ht
set_option maxRecDepth 100000 in
theorem as_nil (g : Nat) (old0 : Value) (w : World) (_ht : w.heap[g]? = some (.cells #[old0] 81 (0, 0))) :
  Calls Tryz.prog 62 #[.nilIface, .iface 117 (.pointer (some ⟨g, 0, none⟩))] w fun ev w' => ev = .returned (.bool false) ∧ Below w.heap.size w w' := by
 go_enter Tryz.func62, Tryz.ntmps62
 go_wp2
 go_ret
 exact ⟨rfl, Below.refl _ _⟩
end Go.Proofs.YtiafggoaedifdaaGreatDoor.AsFber
/- errors.Is at an error of the package Fber that wraps the package's sentinel, against a sentinel: true just if it is that one (Go's text is walked). No conditions beyond the shape of memory that each theorem names. -/
namespace Go.Proofs.YtiafggoaedifdaaGreatDoor.IsFber
open Go.RowKit Go.Extern.Stop Go.Stop Go.Extern
theorem isTypeOf (v : Value) (w : World) : (Extern.ReflectliteType.typeOf #[.iface 266 v]).run Tryz.prog w = .ok (.iface 178 (.agg #[.pointer (some ⟨16, 266, none⟩)])) w := by kernel_rfl
def cmpEntry : Array Value → Sem Value := Extern.ReflectliteType.method fun t => do Rtype.noPackHeld "Comparable" t; pure (.bool (← typeInfo t).comparable)
theorem isComparable (w : World) : (cmpEntry #[.agg #[.pointer (some ⟨16, 266, none⟩)]]).run Tryz.prog w = .ok (.bool true) w := by kernel_rfl
theorem isMethodComparable (v : Value) (w : World) : (Go.method 396 178 v "Comparable").run Tryz.prog w = .ok (208, v) w := by kernel_rfl
theorem isComp : (Tryz.prog.info? 266).map (·.comparable) = some true := by kernel_rfl
theorem isSize : (Tryz.prog.info? 285).map (·.size) = some 1 := by kernel_rfl
theorem noIsE (v : Value) (xT : TypeId) (w : World) : (Instr.typeAssert (.iface 266 v) xT 180 true).run Tryz.prog w = .ok (.tuple #[.nilIface, .bool false]) w := run_typeAssert_lacksB Tryz.underlying180 (by kernel_rfl) (by kernel_rfl) v xT w
theorem noUnwrapE (v : Value) (xT : TypeId) (w : World) : (Instr.typeAssert (.iface 266 v) xT 183 true).run Tryz.prog w = .ok (.tuple #[.nilIface, .bool false]) w := run_typeAssert_lacksB Tryz.underlying183 (by kernel_rfl) (by kernel_rfl) v xT w
theorem noUnwrapsE (v : Value) (xT : TypeId) (w : World) : (Instr.typeAssert (.iface 266 v) xT 185 true).run Tryz.prog w = .ok (.tuple #[.nilIface, .bool false]) w := run_typeAssert_lacksB Tryz.underlying185 (by kernel_rfl) (by kernel_rfl) v xT w
theorem noIsW (v : Value) (xT : TypeId) (w : World) : (Instr.typeAssert (.iface 81 v) xT 180 true).run Tryz.prog w = .ok (.tuple #[.nilIface, .bool false]) w := run_typeAssert_lacksB Tryz.underlying180 (by kernel_rfl) (by kernel_rfl) v xT w
theorem hasUnwrapW (v : Value) (xT : TypeId) (w : World) : (Instr.typeAssert (.iface 81 v) xT 183 true).run Tryz.prog w = .ok (.tuple #[.iface 81 v, .bool true]) w := run_typeAssert_hasB Tryz.underlying183 (by kernel_rfl) v xT w
theorem methodUnwrap (v : Value) (w : World) : (Go.method 396 81 v "Unwrap").run Tryz.prog w = .ok (198, v) w := by kernel_rfl
theorem unwrap (x : Value) (b : Addr) (w : World) (hg : w.cell? ⟨1, 0, none⟩ = some (.iface 266 (.pointer (some b)))) : Calls Tryz.prog 198 #[.agg #[x]] w fun e w' => e = .returned (.iface 266 (.pointer (some b))) ∧ w.alloc (.cells #[x] 81) = w' := by
 have hlt := World.block_lt_of_cell? w _ hg
 go_enter Tryz.func198, Tryz.ntmps198
 go_wp2
 go_ret
 exact ⟨rfl, rfl⟩
set_option maxRecDepth 100000 in
set_option maxHeartbeats 4000000 in
theorem is_same (x : Value) (b : Addr) (w : World) (hg : w.cell? ⟨1, 0, none⟩ = some (.iface 266 (.pointer (some b)))) :
  Calls Tryz.prog 61 #[.iface 81 (.agg #[x]), .iface 266 (.pointer (some b))] w fun e w' => e = .returned (.bool true) ∧ w.alloc (.cells #[x] 81) = w' := by
 obtain ⟨i, hi, hcmp⟩ := Option.map_eq_some_iff.1 isComp
 obtain ⟨j, hj, hjs⟩ := Option.map_eq_some_iff.1 isSize
 have h8 := @run_callFunc_extern Tryz.prog 87 _ Extern.ReflectliteType.typeOf Tryz.func87 (by kernel_rfl) (by kernel_rfl) (by kernel_rfl) (by kernel_rfl)
 have h32 := @run_callFunc_extern Tryz.prog 208 _ cmpEntry Tryz.func208 (by kernel_rfl) (by kernel_rfl) (by kernel_rfl) (by kernel_rfl)
 have tT := isTypeOf
 have cT := isComparable
 have mR := isMethodComparable
 have nE := noIsE
 have uE := noUnwrapE
 have vE := noUnwrapsE
 have nW := noIsW
 have uW := hasUnwrapW
 have mU := methodUnwrap
 have heq := run_eql_iface_ptr_same (P := Tryz.prog) (w.alloc (.cells #[x] 81)) b Tryz.underlying61 Tryz.underlying266 hi hcmp hj
 have hty := run_eql_iface_types (P := Tryz.prog) 81 266 (.agg #[x]) (.pointer (some b)) Tryz.underlying61 (by decide) w
 clear hi hcmp hj hjs
 have hlt := World.block_lt_of_cell? w _ hg
 go_enter Tryz.func61, Tryz.ntmps61
 go_wp2
 refine wp_loop_rounds 2 ?_
 rw [rounds_succ]
 go_wp2
 rw [rounds_succ]
 go_wp2
 go_ret
 exact ⟨rfl, rfl⟩
set_option maxRecDepth 100000 in
theorem is_nil (b : Addr) (w : World) :
  Calls Tryz.prog 61 #[.nilIface, .iface 266 (.pointer (some b))] w fun e w' => e = .returned (.bool false) ∧ w = w' := by
 have hnl := fun w => run_eql_iface_nil_left (P := Tryz.prog) (w := w) 266 (.pointer (some b)) Tryz.underlying61
 go_enter Tryz.func61, Tryz.ntmps61
 go_wp2
 go_ret
 exact ⟨rfl, rfl⟩
end Go.Proofs.YtiafggoaedifdaaGreatDoor.IsFber
/- fber.told: the number of an error of the package fber. Conditions: the package's variable holds its sentinel. -/
namespace Go.Proofs.YtiafggoaedifdaaGreatDoor.ToldFber
open Go.RowKit
theorem told_nil (w : World) (p : Nat → Addr) (h : Globs w p) : Calls Tryz.prog 54 #[.nilIface] w fun e w' => e = .returned (.int .i64 0) ∧ Below w.heap.size w w' := by
 have k0 := h.cell 1 (by decide)
 have hlt := World.block_lt_of_cell? w _ k0
 clear h
 go_enter Tryz.func54, Tryz.ntmps54
 go_wp2_with fail
 have h1 := Aside.mk (below_new w (.cells #[.int .i64 0] 81))
 refine (IsFber.is_nil _ _).mono ?_
 rintro e w0 ⟨rfl, rfl⟩
 go_wp2
 go_ret
 exact ⟨rfl, h1.out⟩
set_option maxHeartbeats 1000000 in
theorem told_wrong (x : Value) (hx : x.oneCell' = true) (w : World) (p : Nat → Addr) (h : Globs w p) :
  Calls Tryz.prog 54 #[.iface 81 (.agg #[x])] w fun e w' => e = .returned (.int .i64 80) ∧ Below w.heap.size w w' := by
 have k0 := h.cell 1 (by decide)
 have hlt := World.block_lt_of_cell? w _ k0
 go_enter Tryz.func54, Tryz.ntmps54
 go_wp2_with fail
 have h1 : Below w.heap.size w (w.alloc (.cells #[.int .i64 0] 81)) := below_new _ _
 have k1 := cell_below k0 h1
 refine (IsFber.is_same x _ _ k1).mono ?_
 rintro e w1 ⟨rfl, hb⟩
 have h2 : Below w.heap.size w w1 := below_then h1 (by rw [← hb]; exact below_new _ _)
 have hc : w1.heap[w.heap.size]? = some (.cells #[.int .i64 0] 81 (0, 0)) := by rw [← hb]; exact blk_below (World.alloc_heap_new w _) (below_new _ _)
 have HC := Aside.mk hc
 have H2 := Aside.mk h2
 have H3 := Aside.mk (h.below h2).et
 have hlt1 : w.heap.size < w1.heap.size := (Array.getElem?_eq_some_iff.1 hc).1
 clear k0 k1 hb hlt h h1 h2 hc
 go_wp2_with fail
 refine (AsFber.as_hit w.heap.size (.int .i64 0) x _ hx H3.out HC.out).mono ?_
 rintro e w0 ⟨rfl, hb, hc⟩
 have H0 := Aside.mk (H2.out.trans hb)
 clear hb hc
 go_wp2
 go_ret
 exact ⟨rfl, H0.out⟩
end Go.Proofs.YtiafggoaedifdaaGreatDoor.ToldFber
/- fber, walked: errors told; leaves. -/
namespace Go.Proofs.YtiafggoaedifdaaGreatDoor.Fb
open Go.RowKit Go.Shelf Go.Lib Fl Tl
open Fi (one_arg cG cF cFs midF midFs)
set_option linter.unusedVariables false
variable (p : Nat → Addr)
def bErr (i : Int) : V := .ifc 81 (.agg [.int .i64 i])
theorem told_nil_fn : Fn Tryz.prog (envX p) 54 [.v .nili] (.v (.int .i64 0)) :=
 Fn.of_plain (enter_of (by kernel_rfl)) rfl fun w L vs hE ha => by
  obtain ⟨v, rfl, h⟩ := one_arg ha
  rw [show v = .nilIface from h]
  exact ToldFber.told_nil w p hE.gl
theorem told_wrong_fn (i : Int) : Fn Tryz.prog (envX p) 54 [.v (bErr i)] (.v (.int .i64 80)) :=
 Fn.of_plain (enter_of (by kernel_rfl)) rfl fun w L vs hE ha => by
  obtain ⟨v, rfl, h⟩ := one_arg ha
  obtain ⟨u, rfl, cs, rfl, h1⟩ := h
  obtain ⟨u, us, h2, _, h3, h4⟩ := h1
  have : cs = #[.int .i64 i] := by
   rw [show us = [] from h4, show u = _ from h3] at h2
   exact Array.toList_inj.1 h2
  rw [this]
  exact ToldFber.told_wrong (.int .i64 i) rfl w p hE.gl
variable {X : En}
theorem leaf_fn (t : Int) (d : ByteArray) : Fn Tryz.prog X 109 [.v (.int .i64 t), .v (.str d)] (.v (.agg (cM (leafN t d)))) := by
 refine fn_prog tabOk mixed Tryz.f109 Tryz.func109 (by kernel_rfl) (by kernel_rfl) ?_
 conv => whnf
 exact ⟨.inr ⟨rfl, rfl⟩, rfl⟩
end Go.Proofs.YtiafggoaedifdaaGreatDoor.Fb
/- fber, walked: trees of pieces, of items. Conditions: at most 10^6 texts. -/
namespace Go.Proofs.YtiafggoaedifdaaGreatDoor.Fb
open Go.RowKit Go.Shelf Go.Lib Fl Tl
open Fi (one_arg cG cF cFs cG_eq midF midFs encS)
set_option linter.unusedVariables false
variable {X : En}
theorem node_fn (t : Int) (ks : List Nd) : Fn Tryz.prog X 110 [.v (.int .i64 t), .v (.sl (ks.map cN))] (.v (.agg (cM (.mk t (bt' []) ks)))) := by
 refine fn_prog tabOk mixed Tryz.f110 Tryz.func110 (by kernel_rfl) (by kernel_rfl) ?_
 conv => whnf
 exact ⟨.inl rfl, rfl⟩
theorem node_nil_fn (t : Int) : Fn Tryz.prog X 110 [.v (.int .i64 t), .v .nils] (.v (.agg [.int .i64 t, .str (bt' []), .nils])) := by
 refine fn_prog tabOk mixed Tryz.f110 Tryz.func110 (by kernel_rfl) (by kernel_rfl) ?_
 conv => whnf
 exact ⟨.inl rfl, rfl⟩
def preP (v : ByteArray) : List Nd := if v.size = 0 then [] else [leafN 128 v]
def finP (f : ByteArray) : List Nd := if f.size = 0 then [] else [leafN 130 f]
theorem pcsN_eq (v : ByteArray) (a : List ByteArray) (f : ByteArray) : pcsN v a f = preP v ++ a.map (leafN 129) ++ finP f := by
 unfold pcsN preP finP
 rw [List.append_assoc]
theorem preP_len (v : ByteArray) : (preP v).length ≤ 1 := by unfold preP; split <;> simp
theorem map_N (l : List Nd) : cNs l = l.map cN := cNs_map l
set_option maxHeartbeats 8000000 in
theorem pieces_fn (f : Flt) (ha : f.any.length ≤ 1000000) : Fn Tryz.prog X 111 [.v (.agg (cG f))] (.v (.agg (cM (.mk 48 (bt' []) (pcsN f.value f.any f.final))))) := by
 have hpl := preP_len f.value
 refine fn_prog tabOk mixed Tryz.f111 Tryz.func111 (by kernel_rfl) (by kernel_rfl) ?_
 conv => whnf
 (refine st_call (node_nil_fn 48) ?_ rfl rfl ?_; (focus (repeat' first|exact trivial|exact rfl|exact .inl rfl|exact .inr ⟨rfl,rfl⟩|refine And.intro ?_ ?_)); conv => whnf)
 refine cmp_split (fun h => ?_) (fun h => ?_)
 ·have hp : preP f.value = [leafN 128 f.value] := by unfold preP; rw [if_neg (fun e => h (Fi.size0.1 e))]
  conv => whnf
  refine ⟨none, by kernel_rfl, ?_⟩; conv => whnf
  (refine st_call (leaf_fn 128 f.value) ?_ rfl rfl ?_; (focus (repeat' first|exact trivial|exact rfl|exact .inl rfl|exact .inr ⟨rfl,rfl⟩|refine And.intro ?_ ?_)); conv => whnf)
  refine ⟨by simp, by intro c hc; simp at hc; rw [hc]; rfl, ?_⟩
  conv => whnf
  refine ⟨Nat, fun i => ⟨50, [(1, .ptr 1 0), (2, .ptr 2 0), (3, .ptr 3 0), (22, .v (.sl (f.any.map encS))), (23, .v (.int .i64 ((f.any.map encS).length : Nat))), (24, .v (.int .i64 (i : Nat)))], [(1, (cG f).map .v), (2, [.v (.int .i64 0), .v (.str (bt' [])), .v .nils]), (3, [.v (.int .i64 48), .v (.str (bt' [])), .own 33 46 ((preP f.value ++ (f.any.take i).map (leafN 129)).map cN)])], [(33, some 46)]⟩, fun i => i ≤ f.any.length, fun i => f.any.length - i, ⟨0, [(33, some 18)], Nat.zero_le _, ?_⟩, fun i hi => ?_⟩
  ·rw [hp]
   (focus (repeat' first|exact trivial|exact rfl|exact .inl rfl|exact .inr ⟨rfl,rfl⟩|refine And.intro ?_ ?_))
  conv => whnf
  refine ⟨rfl, cmp_split (fun h2 => ?_) (fun h2 => ?_)⟩
  ·try dsimp only at h2
   rw [List.length_map] at h2
   have hil : i < f.any.length := by omega
   conv => whnf
   refine st_idx hil rfl ?_
   conv => whnf
   refine ⟨none, by kernel_rfl, ?_⟩; conv => whnf
   (refine st_call (leaf_fn 129 f.any[i]) ?_ rfl rfl ?_; (focus (repeat' first|exact trivial|exact rfl|exact .inl rfl|exact .inr ⟨rfl,rfl⟩|refine And.intro ?_ ?_)); conv => whnf)
   refine st_app (zs := (preP f.value ++ (f.any.take (i + 1)).map (leafN 129)).map cN) (by simp; omega) (by intro c hc; simp at hc; rw [hc]; rfl) (by rw [List.take_succ_eq_append_getElem hil, List.map_append, List.map_append, List.map_append, List.append_assoc, List.map_append]; congr 2) ?_
   conv => whnf
   refine ⟨rfl, st_succ (by omega) ?_⟩
   conv => whnf
   refine ⟨i + 1, [(33, some 33)], by omega, by dsimp only; omega, ?_⟩
   (focus (repeat' first|exact trivial|exact rfl|exact .inl rfl|exact .inr ⟨rfl,rfl⟩|refine And.intro ?_ ?_))
  ·try dsimp only at h2
   rw [List.length_map] at h2
   have htk : f.any.take i = f.any := List.take_of_length_le (by omega)
   conv => whnf
   refine cmp_split (fun h3 => ?_) (fun h3 => ?_)
   ·have hf : finP f.final = [leafN 130 f.final] := by unfold finP; rw [if_neg (fun e => h3 (Fi.size0.1 e))]
    conv => whnf
    refine ⟨none, by kernel_rfl, ?_⟩; conv => whnf
    (refine st_call (leaf_fn 130 f.final) ?_ rfl rfl ?_; (focus (repeat' first|exact trivial|exact rfl|exact .inl rfl|exact .inr ⟨rfl,rfl⟩|refine And.intro ?_ ?_)); conv => whnf)
    refine st_app (zs := (pcsN f.value f.any f.final).map cN) (by rw [htk]; simp; omega) (by intro c hc; simp at hc; rw [hc]; rfl) (by rw [pcsN_eq, hf, htk, List.map_append (l₂ := [leafN 130 f.final])]; congr 1) ?_
    conv => whnf
    exact ⟨.inl rfl, rfl⟩
   ·have hf : finP f.final = [] := by unfold finP; rw [if_pos (Fi.size0.2 (Classical.not_not.1 h3))]
    have he : pcsN f.value f.any f.final = preP f.value ++ (f.any.take i).map (leafN 129) := by rw [pcsN_eq, hf, htk, List.append_nil]
    conv => whnf
    rw [he]
    exact ⟨.inl rfl, rfl⟩
 ·have hp : preP f.value = [] := by unfold preP; rw [if_pos (Fi.size0.2 (Classical.not_not.1 h))]
  conv => whnf
  refine ⟨Nat, fun i => ⟨50, [(1, .ptr 1 0), (2, .ptr 2 0), (3, .ptr 3 0), (22, .v (.sl (f.any.map encS))), (23, .v (.int .i64 ((f.any.map encS).length : Nat))), (24, .v (.int .i64 (i : Nat)))], [(1, (cG f).map .v), (2, [.v (.int .i64 0), .v (.str (bt' [])), .v .nils]), (3, [.v (.int .i64 48), .v (.str (bt' [])), .own 33 46 ((preP f.value ++ (f.any.take i).map (leafN 129)).map cN)])], [(33, some 46)]⟩, fun i => i ≤ f.any.length, fun i => f.any.length - i, ⟨0, [(33, none)], Nat.zero_le _, ?_⟩, fun i hi => ?_⟩
  ·rw [hp]
   (focus (repeat' first|exact trivial|exact rfl|exact .inl rfl|exact .inr ⟨rfl,rfl⟩|refine And.intro ?_ ?_))
  conv => whnf
  refine ⟨rfl, cmp_split (fun h2 => ?_) (fun h2 => ?_)⟩
  ·try dsimp only at h2
   rw [List.length_map] at h2
   have hil : i < f.any.length := by omega
   conv => whnf
   refine st_idx hil rfl ?_
   conv => whnf
   refine ⟨none, by kernel_rfl, ?_⟩; conv => whnf
   (refine st_call (leaf_fn 129 f.any[i]) ?_ rfl rfl ?_; (focus (repeat' first|exact trivial|exact rfl|exact .inl rfl|exact .inr ⟨rfl,rfl⟩|refine And.intro ?_ ?_)); conv => whnf)
   refine st_app (zs := (preP f.value ++ (f.any.take (i + 1)).map (leafN 129)).map cN) (by simp; omega) (by intro c hc; simp at hc; rw [hc]; rfl) (by rw [List.take_succ_eq_append_getElem hil, List.map_append, List.map_append, List.map_append, List.append_assoc, List.map_append]; congr 2) ?_
   conv => whnf
   refine ⟨rfl, st_succ (by omega) ?_⟩
   conv => whnf
   refine ⟨i + 1, [(33, some 33)], by omega, by dsimp only; omega, ?_⟩
   (focus (repeat' first|exact trivial|exact rfl|exact .inl rfl|exact .inr ⟨rfl,rfl⟩|refine And.intro ?_ ?_))
  ·try dsimp only at h2
   rw [List.length_map] at h2
   have htk : f.any.take i = f.any := List.take_of_length_le (by omega)
   conv => whnf
   refine cmp_split (fun h3 => ?_) (fun h3 => ?_)
   ·have hf : finP f.final = [leafN 130 f.final] := by unfold finP; rw [if_neg (fun e => h3 (Fi.size0.1 e))]
    conv => whnf
    refine ⟨none, by kernel_rfl, ?_⟩; conv => whnf
    (refine st_call (leaf_fn 130 f.final) ?_ rfl rfl ?_; (focus (repeat' first|exact trivial|exact rfl|exact .inl rfl|exact .inr ⟨rfl,rfl⟩|refine And.intro ?_ ?_)); conv => whnf)
    refine st_app (zs := (pcsN f.value f.any f.final).map cN) (by rw [htk]; simp; omega) (by intro c hc; simp at hc; rw [hc]; rfl) (by rw [pcsN_eq, hf, htk, List.map_append (l₂ := [leafN 130 f.final])]; congr 1) ?_
    conv => whnf
    exact ⟨.inl rfl, rfl⟩
   ·have hf : finP f.final = [] := by unfold finP; rw [if_pos (Fi.size0.2 (Classical.not_not.1 h3))]
    have he : pcsN f.value f.any f.final = preP f.value ++ (f.any.take i).map (leafN 129) := by rw [pcsN_eq, hf, htk, List.append_nil]
    conv => whnf
    rw [he]
    exact ⟨.inl rfl, rfl⟩
end Go.Proofs.YtiafggoaedifdaaGreatDoor.Fb
/- filt, walked: right filters printed. -/
namespace Go.Proofs.YtiafggoaedifdaaGreatDoor.Fi
open Go.RowKit Go.Shelf Go.Lib Fl
set_option linter.unusedVariables false
variable {X : En}
set_option maxHeartbeats 8000000 in
theorem printed_a (k : Int) (n v : ByteArray) (a : List ByteArray) (fi : ByteArray) (l : List Flt) (hb : (prF (.mk k n v a fi l)).length ≤ 100000000) (g1 : n.size ≤ 30) (g2 : v.size ≤ 60) (g3 : fi.size ≤ 60) (g4 : ∀ s ∈ a, s.size ≤ 60) (g5 : a.length ≤ 4) (g6 : l.length ≤ 8) (hk : k = 7) (hkids : ∀ x ∈ l, Fn Tryz.prog X 39 [.v (.agg (cG x))] (.v (.str (bt' (prF x))))) : Fn Tryz.prog X 39 [.v (.agg (cG (.mk k n v a fi l)))] (.v (.str (bt' (prF (.mk k n v a fi l))))) := by
 have hone : ({ data := #[40] } : ByteArray).size = 1 := rfl
 subst hk
 refine fnB_prog (d := 3) tabOk mixed Bld.bldOk Tryz.f39 Tryz.func39 (by kernel_rfl) rfl rfl rfl rfl (by kernel_rfl) (by kernel_rfl) ?_
 conv => whnf
 refine ⟨rfl, fun B => ?_⟩
 conv => whnf
 refine st_cat (by show 1 + n.size ≤ 9223372036854775807; omega) (z := bt' (40 :: bl n)) (cat_bt [40] (bl n)) ?_
 conv => whnf
 refine .inl ⟨rfl, _, _, _, 40 :: bl n, rfl, rfl, rfl, by rw [List.nil_append]; exact bl_of _, by simp, pre_len (r := midB 7 v a fi ++ prFs l ++ [41]) (by rw [prF]; try simp) hb, ?_⟩
 conv => whnf
 have hmid : midB 7 v a fi = [61, 42] := by unfold midB; rw [if_pos rfl]
 refine ⟨rfl, cmp_true rfl ?_⟩
 conv => whnf
 refine .inl ⟨rfl, _, _, _, 40 :: bl n ++ [61, 42], rfl, rfl, rfl, ?_, by simp, pre_len (r := prFs l ++ [41]) ?_ hb, ?_⟩
 ·rfl
 ·rw [prF, hmid]; simp
 conv => whnf
 refine ⟨Nat, fun i => ⟨62, [(1, .ptr 1 0), (3, .v (.raw (.pointer (some ⟨B, 0, none⟩)))), (50, .v (.sl (l.map cF))), (51, .v (.int .i64 ((l.map cF).length : Nat))), (52, .v (.int .i64 (i : Nat)))], [(1, (cG (.mk 7 n v a fi l)).map .v)], []⟩, fun i => some (40 :: bl n ++ midB 7 v a fi ++ prFs (l.take i)), fun i => i ≤ l.length, fun i => l.length - i, ⟨0, [], Nat.zero_le _, ?_, ?_⟩, fun i hi => ?_⟩
 ·show some (40 :: bl n ++ midB 7 v a fi ++ prFs (l.take 0)) = _
  rw [List.take_zero]
  show some (40 :: bl n ++ midB 7 v a fi ++ []) = _
  rw [List.append_nil]; rw [hmid]
 ·(focus (repeat' first|exact trivial|exact rfl|exact .inl rfl|exact .inr ⟨rfl,rfl⟩|refine And.intro ?_ ?_))
 conv => whnf
 refine ⟨rfl, cmp_split (fun h => ?_) (fun h => ?_)⟩
 ·rw [List.length_map] at h
  have hil : i < l.length := by omega
  conv => whnf
  refine st_idxF hil ?_
  conv => whnf
  (refine st_call (hkids l[i] (List.getElem_mem hil)) ?_ rfl rfl ?_; (focus (repeat' first|exact trivial|exact rfl|exact .inl rfl|exact .inr ⟨rfl,rfl⟩|refine And.intro ?_ ?_)); conv => whnf)
  refine .inl ⟨rfl, _, _, _, 40 :: bl n ++ midB 7 v a fi ++ prFs (l.take (i + 1)), rfl, rfl, rfl, ?_, by simp, pre_len (r := prFs (l.drop (i + 1)) ++ [41]) ?_ hb, ?_⟩
  ·rw [prFs_take l i hil, ← List.append_assoc]; congr 1
  ·rw [prF, List.append_assoc (40 :: bl n ++ midB 7 v a fi), ← List.append_assoc (prFs (l.take (i + 1))), prFs_split]; simp
  conv => whnf
  refine ⟨rfl, st_succ (by omega) ?_⟩
  conv => whnf
  refine ⟨i + 1, [], by dsimp only; omega, rfl, by dsimp only; omega, ?_⟩
  (focus (repeat' first|exact trivial|exact rfl|exact .inl rfl|exact .inr ⟨rfl,rfl⟩|refine And.intro ?_ ?_))
 ·rw [List.length_map] at h
  have hie : i = l.length := by omega
  subst hie
  conv => whnf
  rw [List.take_length]
  refine .inr ⟨rfl, _, rfl, rfl, ?_⟩
  conv => whnf
  refine st_cat ?_ (z := bt' (prF (.mk 7 n v a fi l))) ?_ ?_
  ·have h1 := pre_len (l := 40 :: bl n ++ midB 7 v a fi ++ prFs l) (r := [41]) (by rw [prF]; try simp) hb
   have h2 : (⟨(40 :: bl n ++ midB 7 v a fi ++ prFs l).toArray⟩ : ByteArray).size = (40 :: bl n ++ midB 7 v a fi ++ prFs l).length := (size_bl _).symm.trans (congrArg List.length (bl_of _))
   rw [h2]
   have h3 : ({ data := #[41] } : ByteArray).size = 1 := rfl
   omega
  ·have := cat_bt (40 :: bl n ++ midB 7 v a fi ++ prFs l) [41]
   rw [prF]
   refine this.trans (congrArg bt' ?_)
   simp
  conv => whnf
  exact ⟨.inl rfl, rfl⟩
set_option maxHeartbeats 8000000 in
theorem printed_b (k : Int) (n v : ByteArray) (a : List ByteArray) (fi : ByteArray) (l : List Flt) (hb : (prF (.mk k n v a fi l)).length ≤ 100000000) (g1 : n.size ≤ 30) (g2 : v.size ≤ 60) (g3 : fi.size ≤ 60) (g4 : ∀ s ∈ a, s.size ≤ 60) (g5 : a.length ≤ 4) (g6 : l.length ≤ 8) (hk : k = 4) (hkids : ∀ x ∈ l, Fn Tryz.prog X 39 [.v (.agg (cG x))] (.v (.str (bt' (prF x))))) : Fn Tryz.prog X 39 [.v (.agg (cG (.mk k n v a fi l)))] (.v (.str (bt' (prF (.mk k n v a fi l))))) := by
 have hone : ({ data := #[40] } : ByteArray).size = 1 := rfl
 subst hk
 refine fnB_prog (d := 3) tabOk mixed Bld.bldOk Tryz.f39 Tryz.func39 (by kernel_rfl) rfl rfl rfl rfl (by kernel_rfl) (by kernel_rfl) ?_
 conv => whnf
 refine ⟨rfl, fun B => ?_⟩
 conv => whnf
 refine st_cat (by show 1 + n.size ≤ 9223372036854775807; omega) (z := bt' (40 :: bl n)) (cat_bt [40] (bl n)) ?_
 conv => whnf
 refine .inl ⟨rfl, _, _, _, 40 :: bl n, rfl, rfl, rfl, by rw [List.nil_append]; exact bl_of _, by simp, pre_len (r := midB 4 v a fi ++ prFs l ++ [41]) (by rw [prF]; try simp) hb, ?_⟩
 conv => whnf
 have hmid : midB 4 v a fi = 61 :: ((v :: a).flatMap fun s => escF (bl s) ++ [42]) ++ escF (bl fi) := by unfold midB; rw [if_neg (by decide), if_pos rfl]
 refine ⟨rfl, cmp_false (show ¬ (4 : Int) = 7 by decide) ?_⟩
 conv => whnf
 refine ⟨rfl, cmp_true rfl ?_⟩
 conv => whnf
 refine .inl ⟨rfl, _, _, _, 40 :: bl n ++ [61], rfl, rfl, rfl, ?_, by simp, pre_len (r := ((v :: a).flatMap fun s => escF (bl s) ++ [42]) ++ escF (bl fi) ++ prFs l ++ [41]) ?_ hb, ?_⟩
 ·rfl
 ·rw [prF, hmid]; simp
 conv => whnf
 refine st_app (xs := [[V.str v]]) (by show 1 + (a.map encS).length ≤ 1000000000; rw [List.length_map]; omega) (fun c hc => by obtain ⟨z, _, rfl⟩ := List.mem_map.1 hc; rfl) (zs := (v :: a).map encS) rfl ?_
 conv => whnf
 refine ⟨Nat, fun i => ⟨62, [(1, .ptr 1 0), (3, .v (.raw (.pointer (some ⟨B, 0, none⟩)))), (34, .v (.sl ((v :: a).map encS))), (35, .v (.int .i64 (((v :: a).map encS).length : Nat))), (36, .v (.int .i64 (i : Nat)))], [(1, (cG (.mk 4 n v a fi l)).map .v)], []⟩, fun i => some (40 :: bl n ++ 61 :: ((v :: a).take i).flatMap fun s => escF (bl s) ++ [42]), fun i => i ≤ (v :: a).length, fun i => (v :: a).length - i, ⟨0, [], Nat.zero_le _, rfl, ?_⟩, fun i hi => ?_⟩
 ·(focus (repeat' first|exact trivial|exact rfl|exact .inl rfl|exact .inr ⟨rfl,rfl⟩|refine And.intro ?_ ?_))
 conv => whnf
 refine ⟨rfl, cmp_split (fun h => ?_) (fun h => ?_)⟩
 ·rw [List.length_map] at h
  have hil : i < (v :: a).length := by omega
  have hil5 : i < a.length + 1 := by simpa using hil
  conv => whnf
  refine st_idx hil rfl ?_
  have hz : ((v :: a)[i]).size ≤ 60 := by
   rcases List.mem_cons.1 (List.getElem_mem hil) with e | e
   ·rw [e]; exact g2
   ·exact g4 _ e
  have hts : ((v :: a).take (i + 1)).flatMap (fun s => escF (bl s) ++ [42]) = ((v :: a).take i).flatMap (fun s => escF (bl s) ++ [42]) ++ (escF (bl (v :: a)[i]) ++ [42]) := by
   rw [List.take_succ_eq_append_getElem hil, List.flatMap_append]; simp
  have hsp : ((v :: a).take (i + 1)).flatMap (fun s => escF (bl s) ++ [42]) ++ ((v :: a).drop (i + 1)).flatMap (fun s => escF (bl s) ++ [42]) = (v :: a).flatMap (fun s => escF (bl s) ++ [42]) := by
   rw [← List.flatMap_append, List.take_append_drop]
  generalize (v :: a)[i] = z at *
  conv => whnf
  (refine st_call (escFilter_fn (X := X) z (by omega)) ?_ rfl rfl ?_; (focus (repeat' first|exact trivial|exact rfl|exact .inl rfl|exact .inr ⟨rfl,rfl⟩|refine And.intro ?_ ?_)); conv => whnf)
  refine st_cat (by have := esc60 hz; rw [← size_bl, bl_of]; show _ + 1 ≤ _; omega) (z := bt' (escF (bl z) ++ [42])) (cat_bt _ [42]) ?_
  conv => whnf
  refine .inl ⟨rfl, _, _, _, 40 :: bl n ++ 61 :: ((v :: a).take (i + 1)).flatMap fun s => escF (bl s) ++ [42], rfl, rfl, rfl, ?_, by simp, pre_len (r := ((v :: a).drop (i + 1)).flatMap (fun s => escF (bl s) ++ [42]) ++ escF (bl fi) ++ prFs l ++ [41]) ?_ hb, ?_⟩
  ·rw [hts]
   show (40 :: bl n ++ 61 :: ((v :: a).take i).flatMap fun s => escF (bl s) ++ [42]) ++ bl (bt' (escF (bl z) ++ [42])) = _
   rw [bl_of]; simp
  ·rw [prF, hmid, ← hsp]; simp
  conv => whnf
  refine ⟨rfl, st_succ (by omega) ?_⟩
  conv => whnf
  refine ⟨i + 1, [], by dsimp only; omega, rfl, by dsimp only; omega, ?_⟩
  (focus (repeat' first|exact trivial|exact rfl|exact .inl rfl|exact .inr ⟨rfl,rfl⟩|refine And.intro ?_ ?_))
 rw [List.length_map] at h
 have hie : i = (v :: a).length := by omega
 subst hie
 conv => whnf
 (refine st_call (escFilter_fn (X := X) fi (by omega)) ?_ rfl rfl ?_; (focus (repeat' first|exact trivial|exact rfl|exact .inl rfl|exact .inr ⟨rfl,rfl⟩|refine And.intro ?_ ?_)); conv => whnf)
 refine .inl ⟨rfl, _, _, _, 40 :: bl n ++ midB 4 v a fi, rfl, rfl, rfl, ?_, by simp, pre_len (r := prFs l ++ [41]) ?_ hb, ?_⟩
 ·rw [hmid]
  show (40 :: bl n ++ 61 :: ((v :: a).take (v :: a).length).flatMap fun s => escF (bl s) ++ [42]) ++ bl (bt' (escF (bl fi))) = _
  rw [bl_of, List.take_length]; simp
 ·rw [prF]; try simp
 conv => whnf
 refine ⟨Nat, fun i => ⟨62, [(1, .ptr 1 0), (3, .v (.raw (.pointer (some ⟨B, 0, none⟩)))), (50, .v (.sl (l.map cF))), (51, .v (.int .i64 ((l.map cF).length : Nat))), (52, .v (.int .i64 (i : Nat)))], [(1, (cG (.mk 4 n v a fi l)).map .v)], []⟩, fun i => some (40 :: bl n ++ midB 4 v a fi ++ prFs (l.take i)), fun i => i ≤ l.length, fun i => l.length - i, ⟨0, [], Nat.zero_le _, ?_, ?_⟩, fun i hi => ?_⟩
 ·show some (40 :: bl n ++ midB 4 v a fi ++ prFs (l.take 0)) = _
  rw [List.take_zero]
  show some (40 :: bl n ++ midB 4 v a fi ++ []) = _
  rw [List.append_nil]
 ·(focus (repeat' first|exact trivial|exact rfl|exact .inl rfl|exact .inr ⟨rfl,rfl⟩|refine And.intro ?_ ?_))
 conv => whnf
 refine ⟨rfl, cmp_split (fun h => ?_) (fun h => ?_)⟩
 ·rw [List.length_map] at h
  have hil : i < l.length := by omega
  conv => whnf
  refine st_idxF hil ?_
  conv => whnf
  (refine st_call (hkids l[i] (List.getElem_mem hil)) ?_ rfl rfl ?_; (focus (repeat' first|exact trivial|exact rfl|exact .inl rfl|exact .inr ⟨rfl,rfl⟩|refine And.intro ?_ ?_)); conv => whnf)
  refine .inl ⟨rfl, _, _, _, 40 :: bl n ++ midB 4 v a fi ++ prFs (l.take (i + 1)), rfl, rfl, rfl, ?_, by simp, pre_len (r := prFs (l.drop (i + 1)) ++ [41]) ?_ hb, ?_⟩
  ·rw [prFs_take l i hil, ← List.append_assoc]; congr 1
  ·rw [prF, List.append_assoc (40 :: bl n ++ midB 4 v a fi), ← List.append_assoc (prFs (l.take (i + 1))), prFs_split]; simp
  conv => whnf
  refine ⟨rfl, st_succ (by omega) ?_⟩
  conv => whnf
  refine ⟨i + 1, [], by dsimp only; omega, rfl, by dsimp only; omega, ?_⟩
  (focus (repeat' first|exact trivial|exact rfl|exact .inl rfl|exact .inr ⟨rfl,rfl⟩|refine And.intro ?_ ?_))
 ·rw [List.length_map] at h
  have hie : i = l.length := by omega
  subst hie
  conv => whnf
  rw [List.take_length]
  refine .inr ⟨rfl, _, rfl, rfl, ?_⟩
  conv => whnf
  refine st_cat ?_ (z := bt' (prF (.mk 4 n v a fi l))) ?_ ?_
  ·have h1 := pre_len (l := 40 :: bl n ++ midB 4 v a fi ++ prFs l) (r := [41]) (by rw [prF]; try simp) hb
   have h2 : (⟨(40 :: bl n ++ midB 4 v a fi ++ prFs l).toArray⟩ : ByteArray).size = (40 :: bl n ++ midB 4 v a fi ++ prFs l).length := (size_bl _).symm.trans (congrArg List.length (bl_of _))
   rw [h2]
   have h3 : ({ data := #[41] } : ByteArray).size = 1 := rfl
   omega
  ·have := cat_bt (40 :: bl n ++ midB 4 v a fi ++ prFs l) [41]
   rw [prF]
   refine this.trans (congrArg bt' ?_)
   simp
  conv => whnf
  exact ⟨.inl rfl, rfl⟩
set_option maxHeartbeats 8000000 in
theorem printed_c (k : Int) (n v : ByteArray) (a : List ByteArray) (fi : ByteArray) (l : List Flt) (hb : (prF (.mk k n v a fi l)).length ≤ 100000000) (g1 : n.size ≤ 30) (g2 : v.size ≤ 60) (g3 : fi.size ≤ 60) (g4 : ∀ s ∈ a, s.size ≤ 60) (g5 : a.length ≤ 4) (g6 : l.length ≤ 8) (h7 : ¬ k = 7) (h4 : ¬ k = 4) (hk : k = 0 ∨ k = 1 ∨ k = 2 ∨ k = 3 ∨ k = 5 ∨ k = 6 ∨ k = 8) (hkids : ∀ x ∈ l, Fn Tryz.prog X 39 [.v (.agg (cG x))] (.v (.str (bt' (prF x))))) : Fn Tryz.prog X 39 [.v (.agg (cG (.mk k n v a fi l)))] (.v (.str (bt' (prF (.mk k n v a fi l))))) := by
 have hone : ({ data := #[40] } : ByteArray).size = 1 := rfl
 refine fnB_prog (d := 3) tabOk mixed Bld.bldOk Tryz.f39 Tryz.func39 (by kernel_rfl) rfl rfl rfl rfl (by kernel_rfl) (by kernel_rfl) ?_
 conv => whnf
 refine ⟨rfl, fun B => ?_⟩
 conv => whnf
 refine st_cat (by show 1 + n.size ≤ 9223372036854775807; omega) (z := bt' (40 :: bl n)) (cat_bt [40] (bl n)) ?_
 conv => whnf
 refine .inl ⟨rfl, _, _, _, 40 :: bl n, rfl, rfl, rfl, by rw [List.nil_append]; exact bl_of _, by simp, pre_len (r := midB k v a fi ++ prFs l ++ [41]) (by rw [prF]; try simp) hb, ?_⟩
 conv => whnf
 have hmid : midB k v a fi = signB k ++ escF (bl v) := by unfold midB; rw [if_neg h7, if_neg h4]
 have hget : mget (.int .i64 k) signKs signVs = some (.str (bt' (signB k))) := by rw [sign_get, if_pos hk]
 have hsg : (signB k).length ≤ 2 := by
  unfold signB
  repeat (split; · decide)
  decide
 refine ⟨rfl, cmp_false h7 ?_⟩
 conv => whnf
 refine ⟨rfl, cmp_false h4 ?_⟩
 conv => whnf
 have hcs : (bt' (signB k)).size + (bt' (escF (bl v))).size ≤ 9223372036854775807 := by
  have := esc60 g2
  rw [← size_bl, ← size_bl, bl_of, bl_of]; omega
 (refine ⟨(.one 1 (.one 4 (.or (.or (.one 0 (.or (.one 2 (.or (.one 3 (.one 5 (.one 6 (.one 7 .nil)))) (.one 5 (.or (.one 3 (.one 6 (.one 7 .nil))) (.one 6 (.one 3 (.one 7 .nil))))))) (.one 5 (.or (.one 2 (.or (.one 3 (.one 6 (.one 7 .nil))) (.one 6 (.one 3 (.one 7 .nil))))) (.one 6 (.one 2 (.one 3 (.one 7 .nil)))))))) (.one 2 (.or (.one 0 (.or (.one 3 (.one 5 (.one 6 (.one 7 .nil)))) (.one 5 (.or (.one 3 (.one 6 (.one 7 .nil))) (.one 6 (.one 3 (.one 7 .nil))))))) (.one 5 (.one 0 (.or (.one 3 (.one 6 (.one 7 .nil))) (.one 6 (.one 3 (.one 7 .nil))))))))) (.one 5 (.or (.one 0 (.or (.one 2 (.or (.one 3 (.one 6 (.one 7 .nil))) (.one 6 (.one 3 (.one 7 .nil))))) (.one 6 (.one 2 (.one 3 (.one 7 .nil)))))) (.one 2 (.one 0 (.or (.one 3 (.one 6 (.one 7 .nil))) (.one 6 (.one 3 (.one 7 .nil))))))))))), by kernel_rfl, ?_, ?_, ?_⟩; rotate_left; (focus ((conv => whnf); (repeat' (first | (((with_reducible apply st_call (signs_fn (X := X))); (focus (repeat' first|exact trivial|exact rfl|exact .inl rfl|exact .inr ⟨rfl,rfl⟩|refine And.intro ?_ ?_)); (focus (exact rfl)); (focus (exact rfl))) <;> (conv => whnf)) | (((with_reducible apply st_call (escFilter_fn (X := X) v (by omega))); (focus (repeat' first|exact trivial|exact rfl|exact .inl rfl|exact .inr ⟨rfl,rfl⟩|refine And.intro ?_ ?_)); (focus (exact rfl)); (focus (exact rfl))) <;> (conv => whnf)) | ((refine ⟨_, hget, ?_⟩) <;> (conv => whnf)) | ((refine st_cat hcs (z := bt' (signB k ++ escF (bl v))) (cat_bt _ _) ?_) <;> (conv => whnf)) | ((refine And.intro ?_ ?_) <;> (conv => whnf)) | (exact St.le_refl _) | (refine ⟨rfl, ?_, ?_, ?_⟩ <;> (repeat' (first | exact trivial | (refine ⟨rfl, ?_⟩))); done) | fail))))); conv => whnf
 refine .inl ⟨rfl, _, _, _, 40 :: bl n ++ midB k v a fi, rfl, rfl, rfl, ?_, by simp, pre_len (r := prFs l ++ [41]) ?_ hb, ?_⟩
 ·rw [hmid]
  show 40 :: bl n ++ bl (bt' (signB k ++ escF (bl v))) = _
  rw [bl_of]
 ·rw [prF]; try simp
 conv => whnf
 refine ⟨Nat, fun i => ⟨62, [(1, .ptr 1 0), (3, .v (.raw (.pointer (some ⟨B, 0, none⟩)))), (50, .v (.sl (l.map cF))), (51, .v (.int .i64 ((l.map cF).length : Nat))), (52, .v (.int .i64 (i : Nat)))], [(1, (cG (.mk k n v a fi l)).map .v)], []⟩, fun i => some (40 :: bl n ++ midB k v a fi ++ prFs (l.take i)), fun i => i ≤ l.length, fun i => l.length - i, ⟨0, [], Nat.zero_le _, ?_, ?_⟩, fun i hi => ?_⟩
 ·show some (40 :: bl n ++ midB k v a fi ++ prFs (l.take 0)) = _
  rw [List.take_zero]
  show some (40 :: bl n ++ midB k v a fi ++ []) = _
  rw [List.append_nil]
 ·(focus (repeat' first|exact trivial|exact rfl|exact .inl rfl|exact .inr ⟨rfl,rfl⟩|refine And.intro ?_ ?_))
 conv => whnf
 refine ⟨rfl, cmp_split (fun h => ?_) (fun h => ?_)⟩
 ·rw [List.length_map] at h
  have hil : i < l.length := by omega
  conv => whnf
  refine st_idxF hil ?_
  conv => whnf
  (refine st_call (hkids l[i] (List.getElem_mem hil)) ?_ rfl rfl ?_; (focus (repeat' first|exact trivial|exact rfl|exact .inl rfl|exact .inr ⟨rfl,rfl⟩|refine And.intro ?_ ?_)); conv => whnf)
  refine .inl ⟨rfl, _, _, _, 40 :: bl n ++ midB k v a fi ++ prFs (l.take (i + 1)), rfl, rfl, rfl, ?_, by simp, pre_len (r := prFs (l.drop (i + 1)) ++ [41]) ?_ hb, ?_⟩
  ·rw [prFs_take l i hil, ← List.append_assoc]; congr 1
  ·rw [prF, List.append_assoc (40 :: bl n ++ midB k v a fi), ← List.append_assoc (prFs (l.take (i + 1))), prFs_split]; simp
  conv => whnf
  refine ⟨rfl, st_succ (by omega) ?_⟩
  conv => whnf
  refine ⟨i + 1, [], by dsimp only; omega, rfl, by dsimp only; omega, ?_⟩
  (focus (repeat' first|exact trivial|exact rfl|exact .inl rfl|exact .inr ⟨rfl,rfl⟩|refine And.intro ?_ ?_))
 ·rw [List.length_map] at h
  have hie : i = l.length := by omega
  subst hie
  conv => whnf
  rw [List.take_length]
  refine .inr ⟨rfl, _, rfl, rfl, ?_⟩
  conv => whnf
  refine st_cat ?_ (z := bt' (prF (.mk k n v a fi l))) ?_ ?_
  ·have h1 := pre_len (l := 40 :: bl n ++ midB k v a fi ++ prFs l) (r := [41]) (by rw [prF]; try simp) hb
   have h2 : (⟨(40 :: bl n ++ midB k v a fi ++ prFs l).toArray⟩ : ByteArray).size = (40 :: bl n ++ midB k v a fi ++ prFs l).length := (size_bl _).symm.trans (congrArg List.length (bl_of _))
   rw [h2]
   have h3 : ({ data := #[41] } : ByteArray).size = 1 := rfl
   omega
  ·have := cat_bt (40 :: bl n ++ midB k v a fi ++ prFs l) [41]
   rw [prF]
   refine this.trans (congrArg bt' ?_)
   simp
  conv => whnf
  exact ⟨.inl rfl, rfl⟩
mutual
theorem printed_fn : ∀ (f : Flt) (d : Nat), 1 ≤ d → rightF d f = true → Fn Tryz.prog X 39 [.v (.agg (cG f))] (.v (.str (bt' (prF f))))
 | .mk k n v a fi l, d, hd, h => by
  have hb := pr_bound hd h
  obtain ⟨_, h1, h2⟩ := right_one h
  obtain ⟨g1, g2, g3, g4, g5, g6, g7, g8⟩ := one_short h1
  have hkids := printed_fns l (d + 1) (by omega) h2
  by_cases h7 : k = 7
  ·exact printed_a k n v a fi l hb g1 g2 g3 g4 g5 g6 h7 hkids
  by_cases h4 : k = 4
  ·exact printed_b k n v a fi l hb g1 g2 g3 g4 g5 g6 h4 hkids
  exact printed_c k n v a fi l hb g1 g2 g3 g4 g5 g6 h7 h4 (by omega) hkids
theorem printed_fns : ∀ (l : List Flt) (d : Nat), 1 ≤ d → rightFs d l = true → ∀ x ∈ l, Fn Tryz.prog X 39 [.v (.agg (cG x))] (.v (.str (bt' (prF x))))
 | [], _, _, _, x, hx => by cases hx
 | y :: r, d, hd, h, x, hx => by
  rw [rightFs, Bool.and_eq_true] at h
  have h1 := printed_fn y d hd h.1
  have h2 := printed_fns r d hd h.2
  rcases List.mem_cons.1 hx with rfl | hx
  ·exact h1
  ·exact h2 x hx
end
end Go.Proofs.YtiafggoaedifdaaGreatDoor.Fi
/- filt, walked: Print. Conditions: texts of at most 10^8 bytes. -/
namespace Go.Proofs.YtiafggoaedifdaaGreatDoor.Fi
open Go.RowKit Go.Shelf Go.Lib Fl
set_option linter.unusedVariables false
variable (p : Nat → Addr)
def prR (f : Flt) : T := if rightF 1 f = true then .tup [.v (.str (bt' (prF f))), .v (.int .i64 0)] else .tup [.v (.str (bt' [])), .v (.int .i64 80)]
theorem print_fn (f : Flt) (hf : midF f) (hN : (preF 1 f).length ≤ 900000000) : Fn Tryz.prog (envX p) 19 [.v (.agg (cG f))] (prR f) := by
 refine fn_prog tabOk mixed Tryz.f19 Tryz.func19 (by kernel_rfl) (by kernel_rfl) ?_
 conv => whnf
 refine st_callB (right_fn p f hf hN) ⟨.inl rfl, trivial⟩ rfl (fun hR => ?_) (fun hR => ?_)
 ·conv => whnf
  (refine st_call (printed_fn (X := envX p) f 1 (Nat.le_refl _) hR) ?_ rfl rfl ?_; (focus (repeat' first|exact trivial|exact rfl|exact .inl rfl|exact .inr ⟨rfl,rfl⟩|refine And.intro ?_ ?_)); conv => whnf)
  unfold prR
  rw [if_pos hR]
  exact ⟨⟨.inl rfl, .inl rfl, trivial⟩, rfl⟩
 ·conv => whnf
  (refine st_call (told_wrong_fn p 0) ?_ rfl rfl ?_; (focus (repeat' first|exact trivial|exact rfl|exact .inl rfl|exact .inr ⟨rfl,rfl⟩|refine And.intro ?_ ?_)); conv => whnf)
  unfold prR
  rw [if_neg (by rw [hR]; decide)]
  exact ⟨⟨.inl rfl, .inl rfl, trivial⟩, rfl⟩
end Go.Proofs.YtiafggoaedifdaaGreatDoor.Fi
/- filt, walked: values told as zero values; right filters are not too large. -/
namespace Go.Proofs.YtiafggoaedifdaaGreatDoor.Fi
open Go.RowKit Go.Shelf Go.Lib Fl
set_option linter.unusedVariables false
mutual
def nzd : V → V
 | .nils => .sl []
 | .agg l => .agg (nzds l)
 | .sl xs => .sl (nzdss xs)
 | .int k n => .int k n
 | .bool b => .bool b
 | .str s => .str s
 | .nili => .nili
 | .ifc t x => .ifc t x
 | .raw v => .raw v
 | .mp ks vs => .mp ks vs
def nzds : List V → List V
 | [] => []
 | x :: r => nzd x :: nzds r
def nzdss : List (List V) → List (List V)
 | [] => []
 | c :: r => nzds c :: nzdss r
end
theorem nzd_one : ∀ x : V, x.one = true → (nzd x).one = true := fun x h => by cases x <;> first | exact h | rfl
theorem nzds_len : ∀ l : List V, (nzds l).length = l.length
 | [] => rfl
 | x :: r => by rw [nzds, List.length_cons, List.length_cons, nzds_len r]
theorem nzdss_len : ∀ l : List (List V), (nzdss l).length = l.length
 | [] => rfl
 | x :: r => by rw [nzdss, List.length_cons, List.length_cons, nzdss_len r]
mutual
theorem nzd_rep {w : World} {L : Lv} : ∀ (x : V) (v : Value), Rep w L x v → Rep w L (nzd x) v
 | .nils, v, h => ⟨none, 0, h, Nat.le_refl _, fun e => absurd rfl e⟩
 | .agg l, v, ⟨cs, e, h⟩ => ⟨cs, e, nzds_rep l cs.toList h⟩
 | .sl xs, v, ⟨A, c, e, h1, h2⟩ => ⟨A, c, by rw [nzdss_len]; exact e, by rw [nzdss_len]; exact h1, fun hn => by
   have hx : xs ≠ [] := by rintro rfl; exact hn rfl
   obtain ⟨b, o, k, e1, h3⟩ := h2 hx
   exact ⟨b, o, k, e1, nzdss_rep b k xs o h3⟩⟩
 | .int _ _, _, h => h
 | .bool _, _, h => h
 | .str _, _, h => h
 | .nili, _, h => h
 | .ifc _ _, _, h => h
 | .raw _, _, h => h
 | .mp _ _, _, h => h
theorem nzds_rep {w : World} {L : Lv} : ∀ (l : List V) (cs : List Value), RepL w L l cs → RepL w L (nzds l) cs
 | [], _, h => h
 | x :: r, _, ⟨u, us, e, h1, h2, h3⟩ => ⟨u, us, e, nzd_one x h1, nzd_rep x u h2, nzds_rep r us h3⟩
theorem nzdc_rep {w : World} {L : Lv} (b : Nat) : ∀ (l : List V) (o : Nat), RepC w L b o l → RepC w L b o (nzds l)
 | [], _, _ => trivial
 | x :: r, o, ⟨⟨u, h1, h2, h3, h4⟩, h5⟩ => ⟨⟨u, h1, h2, nzd_one x h3, nzd_rep x u h4⟩, nzdc_rep b r (o + 1) h5⟩
theorem nzdss_rep {w : World} {L : Lv} (b e : Nat) : ∀ (xs : List (List V)) (o : Nat), RepE w L b e o xs → RepE w L b e o (nzdss xs)
 | [], _, _ => trivial
 | c :: r, o, ⟨h1, h2, h3⟩ => ⟨by rw [nzds_len]; exact h1, nzdc_rep b c o h2, nzdss_rep b e r (o + e) h3⟩
end
theorem Fn.arg1 {P : Program} {X : En} {f : FuncId} {x x' : V} {ts : List T} {r : T} (h : Fn P X f (.v x :: ts) r) (hx : ∀ w L v, Rep w L x' v → Rep w L x v) : Fn P X f (.v x' :: ts) r :=
 ⟨h.1, fun w L vs hE hL ⟨v, us, e, h1, h2⟩ => h.2 w L vs hE hL ⟨v, us, e, hx w L v h1, h2⟩⟩
theorem deep {x x' : V} (h : nzd x' = x) : ∀ w L v, Rep w L x' v → Rep w L x v := fun w L v hv => h ▸ nzd_rep x' v hv
mutual
theorem mid_right : ∀ (d : Nat) (f : Flt), rightF d f = true → midF f
 | d, .mk k n v a fi l, h => by
  obtain ⟨_, h1, h2⟩ := right_one h
  obtain ⟨g1, g2, g3, g4, g5, g6, _⟩ := one_short h1
  exact ⟨by omega, by omega, by omega, by omega, by omega, mids_right (d + 1) l h2⟩
theorem mids_right : ∀ (d : Nat) (l : List Flt), rightFs d l = true → midFs l
 | _, [], _ => trivial
 | d, x :: r, h => by
  rw [rightFs, Bool.and_eq_true] at h
  exact ⟨mid_right d x h.1, mids_right d r h.2⟩
end
mutual
theorem cnt_right : ∀ (d m : Nat) (f : Flt), d + m = 7 → rightF d f = true → (preF d f).length ≤ lb m
 | d, 0, .mk k n v a f l, hd, h => by
  rw [rightF, Bool.and_eq_true] at h
  have := of_decide_eq_true h.1
  omega
 | d, m + 1, .mk k n v a f l, hd, h => by
  obtain ⟨_, h1, h2⟩ := right_one h
  obtain ⟨g1, g2, g3, g4, g5, g6, _⟩ := one_short h1
  have h3 := cnts_right (d + 1) m l (by omega) h2
  have h5 : l.length * lb m ≤ 8 * lb m := Nat.mul_le_mul_right _ g6
  rw [preF, List.length_cons, lb]
  omega
theorem cnts_right : ∀ (d m : Nat) (l : List Flt), d + m = 7 → rightFs d l = true → (preFs d l).length ≤ l.length * lb m
 | _, _, [], _, _ => Nat.zero_le _
 | d, m, x :: r, hd, h => by
  rw [rightFs, Bool.and_eq_true] at h
  have h1 := cnt_right d m x hd h.1
  have h2 := cnts_right d m r hd h.2
  rw [preFs, List.length_append, List.length_cons, Nat.succ_mul]
  omega
end
theorem cnt_bound {f : Flt} (h : rightF 1 f = true) : (preF 1 f).length ≤ 900000000 := Nat.le_trans (cnt_right 1 6 f rfl h) (by decide)
end Go.Proofs.YtiafggoaedifdaaGreatDoor.Fi
