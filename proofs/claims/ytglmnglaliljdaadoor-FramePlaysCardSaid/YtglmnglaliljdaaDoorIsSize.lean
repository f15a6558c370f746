/- errors.Is at an error of the package Size that wraps a sentinel, against a sentinel: true just if it is that one (Go's text is walked). No conditions beyond the shape of memory that each theorem names. -/
import Derived.Test.YtglmnglaliljdaaDoorProg
import Derived.WalkKit
import Derived.KernelRfl
import Derived.LaidEql
import Derived.Stop.Asserts
import Derived.RowKitTokens
namespace Go.Proofs.YtglmnglaliljdaaDoor.IsSize
open Go.RowKit Go.Extern.Stop Go.Stop Go.Extern
theorem isTypeOf (v : Value) (w : World) : (Extern.ReflectliteType.typeOf #[.iface 120 v]).run Tryd.prog w = .ok (.iface 99 (.agg #[.pointer (some ⟨8, 120, none⟩)])) w := by kernel_rfl
def cmpEntry : Array Value → Sem Value := Extern.ReflectliteType.method fun t => do Rtype.noPackHeld "Comparable" t; pure (.bool (← typeInfo t).comparable)
theorem isComparable (w : World) : (cmpEntry #[.agg #[.pointer (some ⟨8, 120, none⟩)]]).run Tryd.prog w = .ok (.bool true) w := by kernel_rfl
theorem isMethodComparable (v : Value) (w : World) : (Go.method 253 99 v "Comparable").run Tryd.prog w = .ok (73, v) w := by kernel_rfl
theorem isComp : (Tryd.prog.info? 120).map (·.comparable) = some true := by kernel_rfl
theorem isSize : (Tryd.prog.info? 141).map (·.size) = some 1 := by kernel_rfl
theorem noIsE (v : Value) (xT : TypeId) (w : World) : (Instr.typeAssert (.iface 120 v) xT 111 true).run Tryd.prog w = .ok (.tuple #[.nilIface, .bool false]) w := run_typeAssert_lacksB Tryd.underlying111 (by kernel_rfl) (by kernel_rfl) v xT w
theorem noUnwrapE (v : Value) (xT : TypeId) (w : World) : (Instr.typeAssert (.iface 120 v) xT 106 true).run Tryd.prog w = .ok (.tuple #[.nilIface, .bool false]) w := run_typeAssert_lacksB Tryd.underlying106 (by kernel_rfl) (by kernel_rfl) v xT w
theorem noUnwrapsE (v : Value) (xT : TypeId) (w : World) : (Instr.typeAssert (.iface 120 v) xT 108 true).run Tryd.prog w = .ok (.tuple #[.nilIface, .bool false]) w := run_typeAssert_lacksB Tryd.underlying108 (by kernel_rfl) (by kernel_rfl) v xT w
theorem noIsW (v : Value) (xT : TypeId) (w : World) : (Instr.typeAssert (.iface 78 v) xT 111 true).run Tryd.prog w = .ok (.tuple #[.nilIface, .bool false]) w := run_typeAssert_lacksB Tryd.underlying111 (by kernel_rfl) (by kernel_rfl) v xT w
theorem hasUnwrapW (v : Value) (xT : TypeId) (w : World) : (Instr.typeAssert (.iface 78 v) xT 106 true).run Tryd.prog w = .ok (.tuple #[.iface 78 v, .bool true]) w := run_typeAssert_hasB Tryd.underlying106 (by kernel_rfl) v xT w
theorem methodUnwrap (v : Value) (w : World) : (Go.method 253 78 v "Unwrap").run Tryd.prog w = .ok (67, v) w := by kernel_rfl
theorem unwrap (x y : Value) (w : World) : Calls Tryd.prog 67 #[.agg #[x, y]] w fun e w' => e = .returned y ∧ w.alloc (.cells #[x, y] 78) = w' := by
  go_enter Tryd.func67, Tryd.ntmps67
  go_wp2
  go_ret
  exact ⟨rfl, rfl⟩
set_option maxRecDepth 100000 in
set_option maxHeartbeats 4000000 in
theorem is_same (x : Value) (b : Addr) (w : World) :
    Calls Tryd.prog 28 #[.iface 78 (.agg #[x, .iface 120 (.pointer (some b))]), .iface 120 (.pointer (some b))] w fun e w' => e = .returned (.bool true) ∧ w.alloc (.cells #[x, .iface 120 (.pointer (some b))] 78) = w' := by
  obtain ⟨i, hi, hcmp⟩ := Option.map_eq_some_iff.1 isComp
  obtain ⟨j, hj, hjs⟩ := Option.map_eq_some_iff.1 isSize
  have h8 := @run_callFunc_extern Tryd.prog 39 _ Extern.ReflectliteType.typeOf Tryd.func39 (by kernel_rfl) (by kernel_rfl) (by kernel_rfl) (by kernel_rfl)
  have h32 := @run_callFunc_extern Tryd.prog 73 _ cmpEntry Tryd.func73 (by kernel_rfl) (by kernel_rfl) (by kernel_rfl) (by kernel_rfl)
  have tT := isTypeOf
  have cT := isComparable
  have mR := isMethodComparable
  have nE := noIsE
  have uE := noUnwrapE
  have vE := noUnwrapsE
  have nW := noIsW
  have uW := hasUnwrapW
  have mU := methodUnwrap
  have heq := run_eql_iface_ptr_same (P := Tryd.prog) (w.alloc (.cells #[x, .iface 120 (.pointer (some b))] 78)) b Tryd.underlying49 Tryd.underlying120 hi hcmp hj
  have hty := run_eql_iface_types (P := Tryd.prog) 78 120 (.agg #[x, .iface 120 (.pointer (some b))]) (.pointer (some b)) Tryd.underlying49 (by decide) w
  clear hi hcmp hj hjs
  go_enter Tryd.func28, Tryd.ntmps28
  go_wp2
  refine wp_loop_rounds 2 ?_
  rw [rounds_succ]
  go_wp2
  rw [rounds_succ]
  go_wp2
  go_ret
  exact ⟨rfl, rfl⟩
set_option maxRecDepth 100000 in
set_option maxHeartbeats 4000000 in
theorem is_other (x : Value) (a b : Addr) (ca cb : Array Value) (ta tb : TypeId) (w : World) (hne : a ≠ b) (ha : w.heap[a.block]? = some (.cells ca ta (0, 0))) (hb : w.heap[b.block]? = some (.cells cb tb (0, 0))) :
    Calls Tryd.prog 28 #[.iface 78 (.agg #[x, .iface 120 (.pointer (some a))]), .iface 120 (.pointer (some b))] w fun e w' => e = .returned (.bool false) ∧ w.alloc (.cells #[x, .iface 120 (.pointer (some a))] 78) = w' := by
  obtain ⟨i, hi, hcmp⟩ := Option.map_eq_some_iff.1 isComp
  obtain ⟨j, hj, hjs⟩ := Option.map_eq_some_iff.1 isSize
  have h8 := @run_callFunc_extern Tryd.prog 39 _ Extern.ReflectliteType.typeOf Tryd.func39 (by kernel_rfl) (by kernel_rfl) (by kernel_rfl) (by kernel_rfl)
  have h32 := @run_callFunc_extern Tryd.prog 73 _ cmpEntry Tryd.func73 (by kernel_rfl) (by kernel_rfl) (by kernel_rfl) (by kernel_rfl)
  have tT := isTypeOf
  have cT := isComparable
  have mR := isMethodComparable
  have nE := noIsE
  have uE := noUnwrapE
  have vE := noUnwrapsE
  have nW := noIsW
  have uW := hasUnwrapW
  have mU := methodUnwrap
  have heq := run_eql_iface_ptr_other (P := Tryd.prog) (w.alloc (.cells #[x, .iface 120 (.pointer (some a))] 78)) Tryd.underlying49 Tryd.underlying120 hi hcmp hj (by rw [hjs]; decide) hne
    (by rw [show (w.alloc (.cells #[x, .iface 120 (.pointer (some a))] 78)).heap[a.block]? = w.heap[a.block]? from by show (w.heap.push _)[a.block]? = _; rw [Array.getElem?_push, if_neg (by have := (Array.getElem?_eq_some_iff.1 ha).1; omega)]]; exact ha)
    (by rw [show (w.alloc (.cells #[x, .iface 120 (.pointer (some a))] 78)).heap[b.block]? = w.heap[b.block]? from by show (w.heap.push _)[b.block]? = _; rw [Array.getElem?_push, if_neg (by have := (Array.getElem?_eq_some_iff.1 hb).1; omega)]]; exact hb)
  have hty := run_eql_iface_types (P := Tryd.prog) 78 120 (.agg #[x, .iface 120 (.pointer (some a))]) (.pointer (some b)) Tryd.underlying49 (by decide) w
  clear hi hcmp hj hjs ha hb hne
  go_enter Tryd.func28, Tryd.ntmps28
  go_wp2
  refine wp_loop_rounds 2 ?_
  rw [rounds_succ]
  go_wp2
  rw [rounds_succ]
  go_wp2
  go_ret
  exact ⟨rfl, rfl⟩
end Go.Proofs.YtglmnglaliljdaaDoor.IsSize
