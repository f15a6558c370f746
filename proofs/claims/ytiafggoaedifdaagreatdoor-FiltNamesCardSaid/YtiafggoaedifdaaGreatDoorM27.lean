/- Several texts, one behind the other. code.Unhex at texts of at most two bytes. Conditions: that; the package's variable holds its sentinel. errors.As and errors.Is at an error type of the package Esc: a struct of one cell (Go's text of both is walked). No conditions beyond the shape of memory that each theorem names. errors.Is at an error of the package Esc that wraps the package's sentinel, against a sentinel: true just if it is that one (Go's text is walked). No conditions beyond the shape of memory that each theorem names. esc.told: the number of an error of the package esc. Conditions: the package's variable holds its sentinel. The built-in max and min of two ints, as laws for the walk, their result named. No conditions. esc's reader: rest, digits. Conditions: the shape of memory that each theorem names. -/
import Derived.Test.YtiafggoaedifdaaGreatDoorM26
import Derived.Test.YtiafggoaedifdaaGreatDoorProg
import Derived.WalkKit
import Derived.Below
import Derived.KernelRfl
import Derived.LaidEql
import Derived.Stop.Asserts
import Derived.RowKitTokens
import Derived.Outline
import Derived.Laws.Rows
import Derived.RangeFuncRecord
import Derived.Laws.Tables
import Derived.Test.YtiafggoaedifdaaGreatDoorM01
import Derived.BigFrame
import Derived.Laws.Slices
import Derived.Test.YtiafggoaedifdaaGreatDoorM24
import Derived.Test.YtiafggoaedifdaaGreatDoorM16
/- code.Unhex at texts of at most two bytes. Conditions: that; the package's variable holds its sentinel. -/
namespace Go.Proofs.YtiafggoaedifdaaGreatDoor.Code
open Go.RowKit
set_option linter.unusedVariables false
def unhexT (l : List UInt8) : List UInt8 := (unhex2 l).getD []
def unhexC (l : List UInt8) : Int := if (unhex2 l).isSome then 0 else 50
theorem Unhex_calls (s : ByteArray) (hs : s.size ≤ 2) (w : World) (p : Nat → Addr) (hG : Globs w p) : Calls Tryz.prog 174 #[.string s] w fun e w' => e = .returned (.tuple #[.string ⟨(unhexT s.data.toList).toArray⟩, .int .i64 (unhexC s.data.toList)]) ∧ Below w.heap.size w w' := by
  go_enter Tryz.func174, Tryz.ntmps174
  go_wp2_with fail
  refine (unhex_calls s hs w).mono ?_
  rintro e w1 ⟨⟨v, rfl, hv⟩, hb⟩
  have HB := Aside.mk hb
  have HG1 := Aside.mk (hG.below hb)
  clear hb
  rcases hv with ⟨t, ht, rfl⟩ | ⟨hn, n, rfl⟩
  · have HT := Aside.mk (show unhexT s.data.toList = t ∧ unhexC s.data.toList = 0 by unfold unhexT unhexC; rw [ht]; exact ⟨rfl, rfl⟩)
    clear ht
    go_wp2_with fail
    refine (ToldCode.told_nil w1 p HG1.out).mono ?_
    rintro e w2 ⟨rfl, hb⟩
    have HB2 := Aside.mk (below_then HB.out hb)
    clear hb
    go_wp2
    go_ret2
    exact ⟨by rw [HT.out.1, HT.out.2]; rfl, HB2.out⟩
  · have HT := Aside.mk (show unhexT s.data.toList = [] ∧ unhexC s.data.toList = 50 by unfold unhexT unhexC; rw [hn]; exact ⟨rfl, rfl⟩)
    clear hn
    go_wp2_with fail
    refine (ToldCode.told_wrong _ rfl w1 p HG1.out).mono ?_
    rintro e w2 ⟨rfl, hb⟩
    have HB2 := Aside.mk (below_then HB.out hb)
    clear hb
    go_wp2
    go_ret2
    exact ⟨by rw [HT.out.1, HT.out.2]; rfl, HB2.out⟩
end Go.Proofs.YtiafggoaedifdaaGreatDoor.Code
/- errors.As and errors.Is at an error type of the package Esc: a struct of one cell (Go's text of both is walked). No conditions beyond the shape of memory that each theorem names. -/
namespace Go.Proofs.YtiafggoaedifdaaGreatDoor.AsEsc
open Go.RowKit Go.Extern.Stop Go.Stop Go.Extern
theorem rlm (z : Sem Value) (f : TypeId → Addr → Nat → Nat → Sem Value) (v : Value) :
    ReflectliteValue.method z f #[v] = (do match ← ReflectliteValue.parts v with | none => z | some (t, a, fl) => f t a fl (fl % 32)) := rfl
theorem rls (v x : Value) : ReflectliteValue.set #[v, x] = (do
    let (some (dst, a, fl), some (src, b, _)) := (← ReflectliteValue.parts v, ← ReflectliteValue.parts x)
      | unsupported (.noEntry "extern/(internal/reflectlite.Value).Set.zeroValue")
    if fl / ReflectliteValue.flagAddr % 2 == 0 then unsupported (.noEntry "extern/(internal/reflectlite.Value).Set.unaddressable")
    let val ← loadVar src b
    if ← Rtype.directlyAssignable dst src then storeVar dst a val
    else if ← Rtype.implements dst src then
      if (← Rtype.kind src) == 20 then
        match val with
        | .nilIface => unsupported (.noEntry "extern/reflectlite: a nil value of one interface type handed on as a value of another")
        | _ => storeVar dst a val
      else storeVar dst a (.iface src val)
    else panicString ("reflectlite.Set: value of type " ++ (← Rtype.spelt src) ++ " is not assignable to type " ++ (← Rtype.spelt dst))
    pure (.tuple #[])) := rfl
theorem below_setRow {B g : Nat} {w w' : World} (h : Below B w w') (hB : B ≤ g) (cs : Array Value) : Below B w (w'.setRow g cs) :=
  h.trans ⟨rfl, rfl, rfl, by simp [World.setRow], fun k hk => by simp only [World.setRow, Array.getElem?_modify]; rw [if_neg (by omega)]⟩
theorem valueOfP (t : Addr) (w : World) : (ReflectliteValue.unpack (.iface 248 (.pointer (some t)))).run Tryz.prog w
    = .ok (.agg #[.pointer (some ⟨16, 248, none⟩), .pointer (some ⟨w.heap.size, 0, none⟩), .int .u64 150]) (w.alloc (.cells #[.pointer (some t)] 248)) := by kernel_rfl
theorem typeP (a : Addr) (w : World) : (ReflectliteValue.methodAny (ReflectliteValue.valueError "reflectlite.Value.Type" 0) (fun t _ _ _ => ReflectliteType.toType t) #[.agg #[.pointer (some ⟨16, 248, none⟩), .pointer (some a), .int .u64 150]]).run Tryz.prog w
    = .ok (.iface 178 (.agg #[.pointer (some ⟨16, 248, none⟩)])) w := by kernel_rfl
theorem elemP (w : World) : (ReflectliteType.method ReflectliteType.elem #[.agg #[.pointer (some ⟨16, 248, none⟩)]]).run Tryz.prog w = .ok (.iface 178 (.agg #[.pointer (some ⟨16, 247, none⟩)])) w := by kernel_rfl
theorem kindP (w : World) : ((ReflectliteType.abiMethod fun t => (fun a : Nat => Value.int IntKind.u8 (a : Int)) <$> Rtype.kind t) #[.pointer (some ⟨16, 248, none⟩)]).run Tryz.prog w = .ok (.int .u8 22) w := by kernel_rfl
theorem kindW (w : World) : ((ReflectliteType.abiMethod fun t => (fun a : Nat => Value.int IntKind.u8 (a : Int)) <$> Rtype.kind t) #[.pointer (some ⟨16, 247, none⟩)]).run Tryz.prog w = .ok (.int .u8 25) w := by kernel_rfl
theorem implementsW (w : World) : (ReflectliteType.relation "Implements" ReflectliteType.implements_ #[.agg #[.pointer (some ⟨16, 247, none⟩)], .iface 178 (.agg #[.pointer (some ⟨16, 61, none⟩)])]).run Tryz.prog w = .ok (.bool true) w := by kernel_rfl
theorem typeOfW (v : Value) (w : World) : (ReflectliteType.typeOf #[.iface 247 v]).run Tryz.prog w = .ok (.iface 178 (.agg #[.pointer (some ⟨16, 247, none⟩)])) w := by kernel_rfl
theorem assignW (w : World) : (ReflectliteType.relation "AssignableTo" ReflectliteType.assignableTo #[.agg #[.pointer (some ⟨16, 247, none⟩)], .iface 178 (.agg #[.pointer (some ⟨16, 247, none⟩)])]).run Tryz.prog w = .ok (.bool true) w := by kernel_rfl
theorem valueOfW (x : Value) (w : World) : (ReflectliteValue.unpack (.iface 247 (.agg #[x]))).run Tryz.prog w
    = .ok (.agg #[.pointer (some ⟨16, 247, none⟩), .pointer (some ⟨w.heap.size, 0, none⟩), .int .u64 153]) (w.alloc (.cells #[x] 247)) := by kernel_rfl
theorem methodKind (h : Value) (w : World) : (Go.method 396 178 (.agg #[h]) "Kind").run Tryz.prog w = .ok (192, h) w := by kernel_rfl
theorem methodElem (h : Value) (w : World) : (Go.method 396 178 (.agg #[h]) "Elem").run Tryz.prog w = .ok (209, .agg #[h]) w := by kernel_rfl
theorem methodImplements (h : Value) (w : World) : (Go.method 396 178 (.agg #[h]) "Implements").run Tryz.prog w = .ok (210, .agg #[h]) w := by kernel_rfl
theorem methodAssignableTo (h : Value) (w : World) : (Go.method 396 178 (.agg #[h]) "AssignableTo").run Tryz.prog w = .ok (207, .agg #[h]) w := by kernel_rfl
theorem parts (a : Addr) (w : World) : (ReflectliteValue.parts (.agg #[.pointer (some ⟨16, 248, none⟩), .pointer (some a), .int .u64 150])).run Tryz.prog w = .ok (some (248, a, 150)) w := by kernel_rfl
theorem partsWa (a : Addr) (w : World) : (ReflectliteValue.parts (.agg #[.pointer (some ⟨16, 247, none⟩), .pointer (some a), .int .u64 409])).run Tryz.prog w = .ok (some (247, a, 409)) w := by kernel_rfl
theorem partsW (a : Addr) (w : World) : (ReflectliteValue.parts (.agg #[.pointer (some ⟨16, 247, none⟩), .pointer (some a), .int .u64 153])).run Tryz.prog w = .ok (some (247, a, 153)) w := by kernel_rfl
theorem elemOf (w : World) : (Rtype.elem? 248).run Tryz.prog w = .ok (some 247) w := by kernel_rfl
theorem mkW (p : Addr) (w : World) : (ReflectliteValue.mk 247 p ReflectliteValue.flagAddr).run Tryz.prog w = .ok (.agg #[.pointer (some ⟨16, 247, none⟩), .pointer (some p), .int .u64 409]) w := by kernel_rfl
theorem isNil (a p : Addr) (W : World) (ha : W.cell? a = some (.pointer (some p))) :
    (ReflectliteValue.method (ReflectliteValue.valueError "reflectlite.Value.IsNil" 0) ReflectliteValue.isNil #[.agg #[.pointer (some ⟨16, 248, none⟩), .pointer (some a), .int .u64 150]]).run Tryz.prog W = .ok (.bool false) W := by
  rw [rlm]
  simp only [Sem.run_bind, parts, Result.andThen]
  simp [ReflectliteValue.isNil, loadVar, isAgg, underlying, Tryz.underlying248, ha, Result.andThen]
theorem elemV (a p : Addr) (W : World) (ha : W.cell? a = some (.pointer (some p))) :
    (ReflectliteValue.method (ReflectliteValue.valueError "reflectlite.Value.Elem" 0) ReflectliteValue.elem #[.agg #[.pointer (some ⟨16, 248, none⟩), .pointer (some a), .int .u64 150]]).run Tryz.prog W
      = .ok (.agg #[.pointer (some ⟨16, 247, none⟩), .pointer (some p), .int .u64 409]) W := by
  rw [rlm]
  simp only [Sem.run_bind, parts, Result.andThen]
  simp [ReflectliteValue.elem, loadVar, isAgg, underlying, Tryz.underlying248, ha, Result.andThen, elemOf, mkW]
theorem direct (w : World) : (Rtype.directlyAssignable 247 247).run Tryz.prog w = .ok true w := by kernel_rfl
theorem setW (g b : Nat) (old0 x : Value) (fr : Nat × Nat) (W : World) (hx : x.oneCell' = true) (hb : W.heap[b]? = some (.cells #[x] 247 fr)) (ht : W.heap[g]? = some (.cells #[old0] 247 (0, 0))) :
    (ReflectliteValue.set #[.agg #[.pointer (some ⟨16, 247, none⟩), .pointer (some ⟨g, 0, none⟩), .int .u64 409], .agg #[.pointer (some ⟨16, 247, none⟩), .pointer (some ⟨b, 0, none⟩), .int .u64 153]]).run Tryz.prog W
      = .ok (.tuple #[]) (W.setRow g #[x]) := by
  have hl := run_loadVar_row (P := Tryz.prog) W b 247 247 #[x] fr _ hb Tryz.underlying247 rfl (by kernel_rfl)
  have hs := run_storeVar_row (P := Tryz.prog) W g 247 247 #[old0] #[x] ht (by kernel_rfl) rfl (by simp [hx])
  rw [rls]
  simp only [Sem.run_bind, partsWa, partsW, Result.andThen]
  simp [ReflectliteValue.flagAddr, hl, hs, Result.andThen, direct]
set_option maxHeartbeats 4000000 in
set_option maxRecDepth 100000 in
theorem as_hit (g : Nat) (old0 x : Value) (w : World) (hx : x.oneCell' = true) (hg : w.cell? ⟨4, 0, none⟩ = some (.iface 178 (.agg #[.pointer (some ⟨16, 61, none⟩)])))
    (ht : w.heap[g]? = some (.cells #[old0] 247 (0, 0))) :
    Calls Tryz.prog 62 #[.iface 247 (.agg #[x]), .iface 248 (.pointer (some ⟨g, 0, none⟩))] w fun ev w' => ev = .returned (.bool true) ∧ Below g w w' ∧ w'.heap[g]? = some (.cells #[x] 247 (0, 0)) := by
  have h6 := @run_callFunc_extern Tryz.prog 89 _ (fun args => ReflectliteValue.unpack (args.getD 0 (.tuple #[]))) Tryz.func89 (by kernel_rfl) (by kernel_rfl) (by kernel_rfl) (by kernel_rfl)
  have h7 := @run_callFunc_extern Tryz.prog 90 _ (ReflectliteValue.methodAny (ReflectliteValue.valueError "reflectlite.Value.Type" 0) (fun t _ _ _ => ReflectliteType.toType t)) Tryz.func90 (by kernel_rfl) (by kernel_rfl) (by kernel_rfl) (by kernel_rfl)
  have h8 := @run_callFunc_extern Tryz.prog 91 _ (ReflectliteValue.method (ReflectliteValue.valueError "reflectlite.Value.IsNil" 0) ReflectliteValue.isNil) Tryz.func91 (by kernel_rfl) (by kernel_rfl) (by kernel_rfl) (by kernel_rfl)
  have h27 := @run_callFunc_extern Tryz.prog 192 _ (ReflectliteType.abiMethod fun t => do pure (.int .u8 (← Rtype.kind t))) Tryz.func192 (by kernel_rfl) (by kernel_rfl) (by kernel_rfl) (by kernel_rfl)
  have h37 := @run_callFunc_extern Tryz.prog 209 _ (ReflectliteType.method ReflectliteType.elem) Tryz.func209 (by kernel_rfl) (by kernel_rfl) (by kernel_rfl) (by kernel_rfl)
  have h38 := @run_callFunc_extern Tryz.prog 210 _ (ReflectliteType.relation "Implements" ReflectliteType.implements_) Tryz.func210 (by kernel_rfl) (by kernel_rfl) (by kernel_rfl) (by kernel_rfl)
  have h10 := @run_callFunc_extern Tryz.prog 87 _ ReflectliteType.typeOf Tryz.func87 (by kernel_rfl) (by kernel_rfl) (by kernel_rfl) (by kernel_rfl)
  have h35 := @run_callFunc_extern Tryz.prog 207 _ (ReflectliteType.relation "AssignableTo" ReflectliteType.assignableTo) Tryz.func207 (by kernel_rfl) (by kernel_rfl) (by kernel_rfl) (by kernel_rfl)
  have h11 := @run_callFunc_extern Tryz.prog 119 _ (ReflectliteValue.method (ReflectliteValue.valueError "reflectlite.Value.Elem" 0) ReflectliteValue.elem) Tryz.func119 (by kernel_rfl) (by kernel_rfl) (by kernel_rfl) (by kernel_rfl)
  have h12 := @run_callFunc_extern Tryz.prog 120 _ ReflectliteValue.set Tryz.func120 (by kernel_rfl) (by kernel_rfl) (by kernel_rfl) (by kernel_rfl)
  have tO := typeOfW
  have mA := methodAssignableTo
  have a25 := assignW
  have v25 := valueOfW
  have f6 := valueOfP
  have f7 := typeP
  have mK := methodKind
  have mE := methodElem
  have mI := methodImplements
  have k27 := kindP
  have k25 := kindW
  have e27 := elemP
  have i25 := implementsW
  have hlt : g < w.heap.size := by
    rcases Nat.lt_or_ge g w.heap.size with h | h
    · exact h
    · simp [Array.getElem?_eq_none h] at ht
  have hgg : 4 < w.heap.size := by
    rcases Nat.lt_or_ge 4 w.heap.size with h | h
    · exact h
    · simp [World.cell?, Array.getElem?_eq_none h] at hg
  have hg2 : ((w.alloc (.cells #[.pointer (some ⟨g, 0, none⟩)] 248)).alloc (.cells #[.pointer (some ⟨16, 248, none⟩), .pointer (some ⟨w.heap.size, 0, none⟩), .int .u64 150] 136)).cell? ⟨4, 0, none⟩ = some (.iface 178 (.agg #[.pointer (some ⟨16, 61, none⟩)])) := by
    rw [World.cell?_alloc_lt _ _ ⟨4, 0, none⟩ (by simp; omega), World.cell?_alloc_lt _ _ ⟨4, 0, none⟩ hgg]; exact hg
  have n8 := isNil ⟨w.heap.size, 0, none⟩ ⟨g, 0, none⟩ ((w.alloc (.cells #[.pointer (some ⟨g, 0, none⟩)] 248)).alloc (.cells #[.pointer (some ⟨16, 248, none⟩), .pointer (some ⟨w.heap.size, 0, none⟩), .int .u64 150] 136)) (by simp)
  have el := elemV ⟨w.heap.size, 0, none⟩ ⟨g, 0, none⟩ (((w.alloc (.cells #[.pointer (some ⟨g, 0, none⟩)] 248)).alloc (.cells #[.pointer (some ⟨16, 248, none⟩), .pointer (some ⟨w.heap.size, 0, none⟩), .int .u64 150] 136)).alloc (.cells #[.pointer (some ⟨16, 248, none⟩), .pointer (some ⟨w.heap.size, 0, none⟩), .int .u64 150] 136)) (by rw [World.cell?_alloc_lt _ _ ⟨w.heap.size, 0, none⟩ (by simp; omega)]; simp)
  have st := setW g (w.heap.size + 1 + 1 + 1) old0 x (0, 0) ((((w.alloc (.cells #[.pointer (some ⟨g, 0, none⟩)] 248)).alloc (.cells #[.pointer (some ⟨16, 248, none⟩), .pointer (some ⟨w.heap.size, 0, none⟩), .int .u64 150] 136)).alloc (.cells #[.pointer (some ⟨16, 248, none⟩), .pointer (some ⟨w.heap.size, 0, none⟩), .int .u64 150] 136)).alloc (.cells #[x] 247)) hx (by have := World.alloc_heap_new (((w.alloc (.cells #[.pointer (some ⟨g, 0, none⟩)] 248)).alloc (.cells #[.pointer (some ⟨16, 248, none⟩), .pointer (some ⟨w.heap.size, 0, none⟩), .int .u64 150] 136)).alloc (.cells #[.pointer (some ⟨16, 248, none⟩), .pointer (some ⟨w.heap.size, 0, none⟩), .int .u64 150] 136)) (.cells #[x] 247); simpa using this) (by rw [Below.heap_alloc _ _ _ (by simp; omega), Below.heap_alloc _ _ _ (by simp; omega), Below.heap_alloc _ _ _ (by simp; omega), Below.heap_alloc _ _ _ hlt]; exact ht)
  go_enter Tryz.func62, Tryz.ntmps62
  go_wp2
  refine wp_loop_rounds 1 ?_
  rw [rounds_succ]
  go_wp2
  go_ret
  refine ⟨rfl, ?_, ?_⟩
  · exact below_setRow ((((((Below.refl g w).alloc (by omega) _).alloc (by simp; omega) _).alloc (by simp; omega) _).alloc (by simp; omega) _)) (Nat.le_refl _) _
  · refine setRow_heap _ g #[old0] _ _ _ ?_
    rw [Below.heap_alloc _ _ _ (by simp; omega), Below.heap_alloc _ _ _ (by simp; omega), Below.heap_alloc _ _ _ (by simp; omega), Below.heap_alloc _ _ _ hlt]; exact ht
set_option maxRecDepth 100000 in
theorem as_nil (g : Nat) (old0 : Value) (w : World) (_ht : w.heap[g]? = some (.cells #[old0] 247 (0, 0))) :
    Calls Tryz.prog 62 #[.nilIface, .iface 248 (.pointer (some ⟨g, 0, none⟩))] w fun ev w' => ev = .returned (.bool false) ∧ Below w.heap.size w w' := by
  go_enter Tryz.func62, Tryz.ntmps62
  go_wp2
  go_ret
  exact ⟨rfl, Below.refl _ _⟩
end Go.Proofs.YtiafggoaedifdaaGreatDoor.AsEsc
/- errors.Is at an error of the package Esc that wraps the package's sentinel, against a sentinel: true just if it is that one (Go's text is walked). No conditions beyond the shape of memory that each theorem names. -/
namespace Go.Proofs.YtiafggoaedifdaaGreatDoor.IsEsc
open Go.RowKit Go.Extern.Stop Go.Stop Go.Extern
theorem isTypeOf (v : Value) (w : World) : (Extern.ReflectliteType.typeOf #[.iface 266 v]).run Tryz.prog w = .ok (.iface 178 (.agg #[.pointer (some ⟨16, 266, none⟩)])) w := by kernel_rfl
def cmpEntry : Array Value → Sem Value := Extern.ReflectliteType.method fun t => do Rtype.noPackHeld "Comparable" t; pure (.bool (← typeInfo t).comparable)
theorem isComparable (w : World) : (cmpEntry #[.agg #[.pointer (some ⟨16, 266, none⟩)]]).run Tryz.prog w = .ok (.bool true) w := by kernel_rfl
theorem isMethodComparable (v : Value) (w : World) : (Go.method 396 178 v "Comparable").run Tryz.prog w = .ok (208, v) w := by kernel_rfl
theorem isComp : (Tryz.prog.info? 266).map (·.comparable) = some true := by kernel_rfl
theorem isSize : (Tryz.prog.info? 285).map (·.size) = some 1 := by kernel_rfl
theorem noIsE (v : Value) (xT : TypeId) (w : World) : (Instr.typeAssert (.iface 266 v) xT 180 true).run Tryz.prog w = .ok (.tuple #[.nilIface, .bool false]) w := run_typeAssert_lacksB Tryz.underlying180 (by kernel_rfl) (by kernel_rfl) v xT w
theorem noUnwrapE (v : Value) (xT : TypeId) (w : World) : (Instr.typeAssert (.iface 266 v) xT 183 true).run Tryz.prog w = .ok (.tuple #[.nilIface, .bool false]) w := run_typeAssert_lacksB Tryz.underlying183 (by kernel_rfl) (by kernel_rfl) v xT w
theorem noUnwrapsE (v : Value) (xT : TypeId) (w : World) : (Instr.typeAssert (.iface 266 v) xT 185 true).run Tryz.prog w = .ok (.tuple #[.nilIface, .bool false]) w := run_typeAssert_lacksB Tryz.underlying185 (by kernel_rfl) (by kernel_rfl) v xT w
theorem noIsW (v : Value) (xT : TypeId) (w : World) : (Instr.typeAssert (.iface 247 v) xT 180 true).run Tryz.prog w = .ok (.tuple #[.nilIface, .bool false]) w := run_typeAssert_lacksB Tryz.underlying180 (by kernel_rfl) (by kernel_rfl) v xT w
theorem hasUnwrapW (v : Value) (xT : TypeId) (w : World) : (Instr.typeAssert (.iface 247 v) xT 183 true).run Tryz.prog w = .ok (.tuple #[.iface 247 v, .bool true]) w := run_typeAssert_hasB Tryz.underlying183 (by kernel_rfl) v xT w
theorem methodUnwrap (v : Value) (w : World) : (Go.method 396 247 v "Unwrap").run Tryz.prog w = .ok (220, v) w := by kernel_rfl
theorem unwrap (x : Value) (b : Addr) (w : World) (hg : w.cell? ⟨13, 0, none⟩ = some (.iface 266 (.pointer (some b)))) : Calls Tryz.prog 220 #[.agg #[x]] w fun e w' => e = .returned (.iface 266 (.pointer (some b))) ∧ w.alloc (.cells #[x] 247) = w' := by
  have hlt := World.block_lt_of_cell? w _ hg
  go_enter Tryz.func220, Tryz.ntmps220
  go_wp2
  go_ret
  exact ⟨rfl, rfl⟩
set_option maxRecDepth 100000 in
set_option maxHeartbeats 4000000 in
theorem is_same (x : Value) (b : Addr) (w : World) (hg : w.cell? ⟨13, 0, none⟩ = some (.iface 266 (.pointer (some b)))) :
    Calls Tryz.prog 61 #[.iface 247 (.agg #[x]), .iface 266 (.pointer (some b))] w fun e w' => e = .returned (.bool true) ∧ w.alloc (.cells #[x] 247) = w' := by
  obtain ⟨i, hi, hcmp⟩ := Option.map_eq_some_iff.1 isComp
  obtain ⟨j, hj, hjs⟩ := Option.map_eq_some_iff.1 isSize
  have h8 := @run_callFunc_extern Tryz.prog 87 _ Extern.ReflectliteType.typeOf Tryz.func87 (by kernel_rfl) (by kernel_rfl) (by kernel_rfl) (by kernel_rfl)
  have h32 := @run_callFunc_extern Tryz.prog 208 _ cmpEntry Tryz.func208 (by kernel_rfl) (by kernel_rfl) (by kernel_rfl) (by kernel_rfl)
  have tT := isTypeOf
  have cT := isComparable
  have mR := isMethodComparable
  have nE := noIsE
  have uE := noUnwrapE
  have vE := noUnwrapsE
  have nW := noIsW
  have uW := hasUnwrapW
  have mU := methodUnwrap
  have heq := run_eql_iface_ptr_same (P := Tryz.prog) (w.alloc (.cells #[x] 247)) b Tryz.underlying61 Tryz.underlying266 hi hcmp hj
  have hty := run_eql_iface_types (P := Tryz.prog) 247 266 (.agg #[x]) (.pointer (some b)) Tryz.underlying61 (by decide) w
  clear hi hcmp hj hjs
  have hlt := World.block_lt_of_cell? w _ hg
  go_enter Tryz.func61, Tryz.ntmps61
  go_wp2
  refine wp_loop_rounds 2 ?_
  rw [rounds_succ]
  go_wp2
  rw [rounds_succ]
  go_wp2
  go_ret
  exact ⟨rfl, rfl⟩
set_option maxRecDepth 100000 in
theorem is_nil (b : Addr) (w : World) :
    Calls Tryz.prog 61 #[.nilIface, .iface 266 (.pointer (some b))] w fun e w' => e = .returned (.bool false) ∧ w = w' := by
  have hnl := fun w => run_eql_iface_nil_left (P := Tryz.prog) (w := w) 266 (.pointer (some b)) Tryz.underlying61
  go_enter Tryz.func61, Tryz.ntmps61
  go_wp2
  go_ret
  exact ⟨rfl, rfl⟩
end Go.Proofs.YtiafggoaedifdaaGreatDoor.IsEsc
/- esc.told: the number of an error of the package esc. Conditions: the package's variable holds its sentinel. -/
namespace Go.Proofs.YtiafggoaedifdaaGreatDoor.ToldEsc
open Go.RowKit
theorem told_nil (w : World) (p : Nat → Addr) (h : Globs w p) : Calls Tryz.prog 161 #[.nilIface] w fun e w' => e = .returned (.int .i64 0) ∧ Below w.heap.size w w' := by
  have k0 := h.cell 13 (by decide)
  have hlt := World.block_lt_of_cell? w _ k0
  clear h
  go_enter Tryz.func161, Tryz.ntmps161
  go_wp2_with fail
  have h1 := Aside.mk (below_new w (.cells #[.int .i64 0] 247))
  refine (AsEsc.as_nil w.heap.size (.int .i64 0) _ (World.alloc_heap_new w _)).mono ?_
  rintro e w0 ⟨rfl, hb⟩
  have H0 := Aside.mk (below_then h1.out hb)
  clear hb
  go_wp2
  go_ret
  exact ⟨rfl, H0.out⟩
set_option maxHeartbeats 1000000 in
theorem told_wrong (x : Value) (hx : x.oneCell' = true) (w : World) (p : Nat → Addr) (h : Globs w p) :
    Calls Tryz.prog 161 #[.iface 247 (.agg #[x])] w fun e w' => e = .returned (.int .i64 60) ∧ Below w.heap.size w w' := by
  have k0 := h.cell 13 (by decide)
  have hlt := World.block_lt_of_cell? w _ k0
  go_enter Tryz.func161, Tryz.ntmps161
  go_wp2_with fail
  have h1 : Below w.heap.size w (w.alloc (.cells #[.int .i64 0] 247)) := below_new _ _
  refine (AsEsc.as_hit w.heap.size (.int .i64 0) x _ hx (h.below h1).et (World.alloc_heap_new w _)).mono ?_
  rintro e w0 ⟨rfl, hb, hc⟩
  have H0 := Aside.mk (h1.trans hb)
  have h0 := h.below H0.out
  clear h h1 hb hc k0 hlt
  have k0 := h0.cell 13 (by decide)
  have hlt := World.block_lt_of_cell? w0 _ k0
  go_wp2_with fail
  refine (IsEsc.is_same x _ _ k0).mono ?_
  rintro e w1 ⟨rfl, hb⟩
  have H1 := Aside.mk (show Below w.heap.size w w1 from below_then H0.out (by rw [← hb]; exact below_new _ _))
  clear k0 hb hlt
  go_wp2
  go_ret
  exact ⟨rfl, H1.out⟩
end Go.Proofs.YtiafggoaedifdaaGreatDoor.ToldEsc
/- The built-in max and min of two ints, as laws for the walk, their result named. No conditions. -/
namespace Go.Proofs.YtiafggoaedifdaaGreatDoor
open Go.RowKit
set_option linter.unusedVariables false
theorem wpList_max2 {P : Program} {ops : Array Oper} {rest : List Oper} {a : Act} {w : World} {Q : Exit → Act → World → Prop} {d : Option Tmp} {s x : Operand} {ats : Array TypeId} {ty : TypeId} {ps : String} {af : Array Edge} {m n r : Int}
    (hs : a.eval s = .int .i64 m) (hx : a.eval x = .int .i64 n) (hr : r = max m n) (h : wpList P ops Q rest (a.put d (.int .i64 r)) w) :
    wpList P ops Q ({ dst := d, op := .call { callee := .builtin .max, args := #[s, x], argTypes := ats }, type := ty, pos := ps, after := af, guard := none } :: rest) a w := by
  refine wpList_plain rfl fun K hK => ?_
  have e : (if n > m then n else m) = r := by rw [hr]; split <;> omega
  unfold Oper.wp
  simp [execOp, resolve, invoke, builtin, hs, hx, Builtin.max_, Builtin.max2]
  simp only [gt_iff_lt] at e
  rw [e]
  exact hK _ _ h
theorem wpList_min2 {P : Program} {ops : Array Oper} {rest : List Oper} {a : Act} {w : World} {Q : Exit → Act → World → Prop} {d : Option Tmp} {s x : Operand} {ats : Array TypeId} {ty : TypeId} {ps : String} {af : Array Edge} {m n r : Int}
    (hs : a.eval s = .int .i64 m) (hx : a.eval x = .int .i64 n) (hr : r = min m n) (h : wpList P ops Q rest (a.put d (.int .i64 r)) w) :
    wpList P ops Q ({ dst := d, op := .call { callee := .builtin .min, args := #[s, x], argTypes := ats }, type := ty, pos := ps, after := af, guard := none } :: rest) a w := by
  refine wpList_plain rfl fun K hK => ?_
  have e : (if n < m then n else m) = r := by rw [hr]; split <;> omega
  unfold Oper.wp
  simp [execOp, resolve, invoke, builtin, hs, hx, Builtin.min_, Builtin.min2]
  rw [e]
  exact hK _ _ h
/-- a text's piece, its ends named -/
theorem wpList_piece {P : Program} {ops : Array Oper} {rest : List Oper} {a : Act} {w : World} {Q : Exit → Act → World → Prop} {d : Option Tmp} {s lo hi : Operand} {t ty : TypeId} {ps : String} {af : Array Edge} {x : ByteArray} {i j : Nat} {m n : Int} (hu : P.underlying t = some .string)
    (hs : a.eval s = .string x) (hl : a.eval lo = .int .i64 m) (hh : a.eval hi = .int .i64 n) (hm : m = i) (hn : n = j) (hij : i ≤ j) (hj : j ≤ x.size) (h : wpList P ops Q rest (a.put d (.string (x.extract i j))) w) :
    wpList P ops Q ({ dst := d, op := .slice t s (some lo) (some hi) none, type := ty, pos := ps, after := af, guard := none } :: rest) a w := by
  refine wpList_plain rfl fun K hK => ?_
  subst hm hn
  have e := run_slice_string (P := P) w t x .i64 .i64 (i : Int) (j : Int) hu (by omega) (by omega) (by omega)
  rw [Int.toNat_natCast, Int.toNat_natCast] at e
  unfold Oper.wp
  simp [execOp, hs, hl, hh, run_sliceAt_string w t _ _ _ _ hu, e, Result.andThen]
  exact hK _ _ h
theorem wpList_tail {P : Program} {ops : Array Oper} {rest : List Oper} {a : Act} {w : World} {Q : Exit → Act → World → Prop} {d : Option Tmp} {s lo : Operand} {t ty : TypeId} {ps : String} {af : Array Edge} {x : ByteArray} {i : Nat} {m : Int} (hu : P.underlying t = some .string)
    (hs : a.eval s = .string x) (hl : a.eval lo = .int .i64 m) (hm : m = i) (hi : i ≤ x.size) (h : wpList P ops Q rest (a.put d (.string (x.extract i x.size))) w) :
    wpList P ops Q ({ dst := d, op := .slice t s (some lo) none none, type := ty, pos := ps, after := af, guard := none } :: rest) a w := by
  refine wpList_plain rfl fun K hK => ?_
  subst hm
  have e := run_slice_string_l (P := P) w t x hu .i64 (i : Int) (by omega) (by omega)
  rw [Int.toNat_natCast] at e
  unfold Oper.wp
  simp [execOp, hs, hl, run_sliceAt_string w t _ _ _ _ hu, e, Result.andThen]
  exact hK _ _ h
end Go.Proofs.YtiafggoaedifdaaGreatDoor
/- esc's reader: rest, digits. Conditions: the shape of memory that each theorem names. -/
namespace Go.Proofs.YtiafggoaedifdaaGreatDoor.Esc
open Go.RowKit
set_option linter.unusedVariables false
theorem rest_calls {w : World} {B : Nat} {s : ByteArray} {at_ : Nat} {nm : Bool} {l : List UInt8} (h : RD w B s at_ nm l) (ha : at_ ≤ s.size) (hs : s.size ≤ 1000000000) {r : ByteArray} (hr : s.extract at_ s.size = r) :
    Calls Tryz.prog 169 #[.pointer (some ⟨B, 0, none⟩)] w fun e w' => e = .returned (.string r) ∧ RD w' B s at_ nm l ∧ Below w.heap.size w w' := by
  subst hr
  have HR := Aside.mk h
  obtain ⟨p, v, h1, _⟩ := h
  have c0 := cel h1 0 (v := .string s) rfl
  have c1 := cel h1 1 (v := .int .i64 at_) rfl
  have hai : (at_ : Int) ≤ (s.size : Int) := by omega
  have ha0 : (0 : Int) ≤ (at_ : Int) := by omega
  clear h1
  go_enter Tryz.func169, Tryz.ntmps169
  go_wp2_with fail
  go_quiet (fail)
  go_wp2
  go_ret
  exact ⟨rfl, HR.out.below (below_drewN _ _), below_drewN _ _⟩
theorem RD.setAt {w : World} {B : Nat} {s : ByteArray} {at_ : Nat} {nm : Bool} {l : List UInt8} (h : RD w B s at_ nm l) (a : Nat) : RD (w.setCell ⟨B, 1, none⟩ (.int .i64 (a : Int))) B s a nm l := by
  obtain ⟨p, v, h1, h2, h3, h4⟩ := h
  exact ⟨p, v, set_blk h1 1 _, h2, ownsRow_upd h3 (Upd.of_grown (S := fun k => k = B) (set_grown w B 1 _) rfl) (fun k hk => by have := (h3.lt k hk).1; omega), h4⟩
/-- what digits answers -/
def DigRes (w0 : World) (B : Nat) (s : ByteArray) (at_ : Nat) (nm : Bool) (l : List UInt8) (e : Ending) (w' : World) : Prop :=
  (∃ z, digitAt s at_ = some z ∧ e = .returned .nilIface ∧ RD w' B s (at_ + 2) nm (l ++ [z]) ∧ at_ + 2 ≤ s.size ∧ Below w0.heap.size w0 w') ∨ (digitAt s at_ = none ∧ (∃ n : Int, e = .returned (.iface 247 (.agg #[.int .i64 n]))) ∧ Below w0.heap.size w0 w')
set_option maxHeartbeats 4000000 in
theorem digits_calls {w0 w : World} {B : Nat} {s : ByteArray} {at_ : Nat} {nm : Bool} {l : List UInt8} {p : Nat → Addr} (h : RD w B s at_ nm l) (hG0 : Globs w0 p) (h0 : Below w0.heap.size w0 w) (hB0 : w0.heap.size ≤ B) (ha : at_ ≤ s.size) (hs : s.size ≤ 100000000) (hl : l.length ≤ 100000000) :
    Calls Tryz.prog 170 #[.pointer (some ⟨B, 0, none⟩)] w (DigRes w0 B s at_ nm l) := by
  have hG := hG0.below h0
  obtain ⟨r, hr⟩ : ∃ r, s.extract at_ s.size = r := ⟨_, rfl⟩
  have hrs : r.size = s.size - at_ := by rw [← hr]; exact extract_size s _ _ ha (Nat.le_refl _)
  obtain ⟨m, hm⟩ : ∃ m, min 2 r.size = m := ⟨_, rfl⟩
  have hm1 : m ≤ 2 := by omega
  have hm2 : m ≤ r.size := by omega
  have hmi : min (2 : Int) (r.size : Int) = (m : Int) := by omega
  have hmz : (m : Int) ≤ (r.size : Int) := by omega
  have hsz : (r.extract 0 m).size ≤ 2 := by rw [extract_size r _ _ (Nat.zero_le _) hm2]; omega
  have hs' : s.size ≤ 1000000000 := by omega
  have HR := Aside.mk hr
  have HRS := Aside.mk hrs
  have HM := Aside.mk hm
  have HS2 := Aside.mk hsz
  clear hr hrs hm hsz
  go_enter Tryz.func170, Tryz.ntmps170
  go_wp2_with fail
  go_region_held3 (fun w' => RD w' B s at_ nm l ∧ Globs w' p ∧ Below w.heap.size w w') (first | exact ⟨h.below (below_drew _), hG.below (below_drew _), below_drew _⟩ | exact ⟨k1, k2, k3⟩)
    (first
      | (go_at_call 169; refine (rest_calls (by first | exact k1 | exact h.below (below_drew _)) ha hs' HR.out).mono ?_; rintro e w1 ⟨rfl, k4, hb⟩; have k5 := Globs.below (p := p) (by first | exact k2 | exact hG.below (below_drew _)) hb; have k6 := below_then (w := w) (by first | exact k3 | exact below_drew _) hb; clear hb; have k1 := k4; have k2 := k5; have k3 := k6; clear k4 k5 k6)
      | (go_at_call 174; refine (Code.Unhex_calls _ HS2.out _ p (by first | exact k2 | exact hG.below (below_drew _))).mono ?_; rintro e w1 ⟨rfl, hb⟩; have k4 := RD.below (B := B) (s := s) (at_ := at_) (nm := nm) (l := l) (by first | exact k1 | exact h.below (below_drew _)) hb; have k5 := Globs.below (p := p) (by first | exact k2 | exact hG.below (below_drew _)) hb; have k6 := below_then (w := w) (by first | exact k3 | exact below_drew _) hb; clear hb; have k1 := k4; have k2 := k5; have k3 := k6; clear k4 k5 k6))
  all_goals
    have HK1 := Aside.mk k1
    have HK3 := Aside.mk (below_then h0 k3)
    clear k1 k2 k3 h hG
    have hrl : r.data.toList = s.data.toList.drop at_ := by rw [← HR.out]; exact Lib.extract_to_end s at_
    have htw : r.data.toList.take m = two s at_ := by
      unfold two
      rw [hrl, ← HM.out]
      rcases Nat.lt_or_ge r.size 2 with h | h
      · rw [Nat.min_eq_right (by omega), List.take_of_length_le (by rw [← hrl, Txt.size_list]; omega), List.take_of_length_le (by rw [← hrl, Txt.size_list]; omega)]
      · rw [Nat.min_eq_left h]
    rw [htw]
    clear hrl htw
    rcases unhex2_cases (two s at_) with hu | hu | ⟨z, hu⟩
    · have HD := Aside.mk (show digitAt s at_ = none by unfold digitAt; rw [hu])
      have e1 : Code.unhexT (two s at_) = [] := by unfold Code.unhexT; rw [hu]; rfl
      have e2 : Code.unhexC (two s at_) = 50 := by unfold Code.unhexC; rw [hu]; rfl
      rw [e1, e2]
      clear e1 e2 hu
      obtain ⟨p', v, hb, _⟩ := HK1.out
      have c1 := cel hb 1 (v := .int .i64 at_) rfl
      clear hb
      go_wp2
      go_ret
      exact .inr ⟨HD.out, ⟨_, rfl⟩, HK3.out⟩
    · have HD := Aside.mk (show digitAt s at_ = none by unfold digitAt; rw [hu])
      have e1 : Code.unhexT (two s at_) = [] := by unfold Code.unhexT; rw [hu]; rfl
      have e2 : Code.unhexC (two s at_) = 0 := by unfold Code.unhexC; rw [hu]; rfl
      rw [e1, e2]
      clear e1 e2 hu
      obtain ⟨p', v, hb, _⟩ := HK1.out
      have c1 := cel hb 1 (v := .int .i64 at_) rfl
      clear hb
      go_wp2
      go_ret
      exact .inr ⟨HD.out, ⟨_, rfl⟩, HK3.out⟩
    · have HD := Aside.mk (show digitAt s at_ = some z by unfold digitAt; rw [hu])
      have h2 : at_ + 2 ≤ s.size := by
        have hl2 : (two s at_).length = 2 := by
          match hq : two s at_, hu with
          | [], hu => simp [Code.unhex2] at hu
          | [_], hu => simp [Code.unhex2] at hu
          | [a, b], _ => rfl
          | _ :: _ :: _ :: _, hu => simp [Code.unhex2] at hu
        unfold two at hl2
        rw [List.length_take, List.length_drop, Txt.size_list] at hl2
        omega
      have e1 : Code.unhexT (two s at_) = [z] := by unfold Code.unhexT; rw [hu]; rfl
      have e2 : Code.unhexC (two s at_) = 0 := by unfold Code.unhexC; rw [hu]; rfl
      rw [e1, e2]
      clear e1 e2 hu
      obtain ⟨p', v, hb, hr2⟩ := HK1.out
      have c1 := cel hb 1 (v := .int .i64 at_) rfl
      have f1 := frz hb 1
      have HBk := Aside.mk hb
      have HR2 := Aside.mk hr2
      clear hb hr2
      have hBl : B < w1.heap.size := (Array.getElem?_eq_some_iff.1 HBk.out).1
      go_wp2_with fail
      have hrd := RD.setAt HK1.out (at_ + 2)
      have hbb : Below w0.heap.size w0 (w1.setCell ⟨B, 1, none⟩ (.int .i64 ((at_ + 2 : Nat) : Int))) := HK3.out.setCell (p := ⟨B, 1, none⟩) hB0 _
      have hbs : B < (w1.setCell ⟨B, 1, none⟩ (.int .i64 ((at_ + 2 : Nat) : Int))).heap.size := by simpa [World.setCell] using hBl
      refine (wstring hrd hbs [z] (by simp) (by simp; omega)).mono ?_
      rintro e w9 ⟨⟨v9, rfl⟩, k9, b9⟩
      have K9 := Aside.mk k9
      have B9 := Aside.mk (hbb.trans (b9.mono hB0))
      clear hrd hbb hbs k9 b9
      go_wp2
      go_ret
      exact .inl ⟨z, HD.out, rfl, K9.out, h2, B9.out⟩
end Go.Proofs.YtiafggoaedifdaaGreatDoor.Esc
