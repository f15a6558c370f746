/- Several texts, one behind the other. dn.printed: a name's text. Conditions: the name is right, and reads as it lies. errors.As and errors.Is at an error type of the package Dn: a struct of one cell (Go's text of both is walked). No conditions beyond the shape of memory that each theorem names. errors.Is at an error of the package Dn that wraps the package's sentinel, against a sentinel: true just if it is that one (Go's text is walked). No conditions beyond the shape of memory that each theorem names. dn.told: the number of an error of the package dn. Conditions: the package's variable holds its sentinel. dn: names as values without memory; the contracts of dn's functions in that way of telling. Conditions: as in these contracts. dn's laws: a name cut to its first ten parts, each to its first five pairs, each to 21 and 61 bytes. No conditions. dn: a name's text. Conditions: at most 1000 parts of at most 100 pairs, types and values of at most 1000 bytes. dn: the walk over a text's pieces, as an iterator without memory. Conditions: at most 10^8 bytes; the sign is no backslash. dn: Print, parsed, Parse, Canon. Conditions: texts of at most 10^6 bytes. -/
import Derived.Test.YtjmpkbmgcbalkaaGreatDoorM20
import Derived.Test.YtjmpkbmgcbalkaaGreatDoorM12
import Derived.Test.YtjmpkbmgcbalkaaGreatDoorProg
import Derived.WalkKit
import Derived.Below
import Derived.KernelRfl
import Derived.LaidEql
import Derived.Stop.Asserts
import Derived.RowKitTokens
import Derived.Outline
import Derived.Laws.Rows
import Derived.RangeFuncRecord
import Derived.Laws.Tables
import Derived.Test.YtjmpkbmgcbalkaaGreatDoorM01
import Derived.Test.YtjmpkbmgcbalkaaGreatDoorM08
import Derived.Test.YtjmpkbmgcbalkaaGreatDoorM09
import Derived.Test.YtjmpkbmgcbalkaaGreatDoorM15
/- dn.printed: a name's text. Conditions: the name is right, and reads as it lies. -/
namespace Go.Proofs.YtjmpkbmgcbalkaaGreatDoor.Dn
open Go.RowKit Go.Lib
set_option linter.unusedVariables false
theorem join_joinC (c : UInt8) : ∀ l : List (List UInt8), Lib.join l [c] = joinC c l
  | [] => rfl
  | [x] => Lib.join_one x [c]
  | x :: y :: t => by
    rw [joinC, ← join_joinC c (y :: t)]
    simp [Lib.join, List.intercalate, List.intersperse]
theorem joinC_len (c : UInt8) (M : Nat) : ∀ l : List (List UInt8), (∀ x ∈ l, x.length ≤ M) → (joinC c l).length ≤ l.length * (M + 1)
  | [], _ => by simp [joinC]
  | [x], h => by have := h x (by simp); rw [joinC]; simp; omega
  | x :: y :: t, h => by
    have h1 := h x (by simp)
    have h2 := joinC_len c M (y :: t) (fun z hz => h z (by simp at hz ⊢; exact .inr hz))
    rw [joinC, List.length_append, List.length_cons]
    simp only [List.length_cons] at h2 ⊢
    rw [Nat.add_mul (t.length + 1) 1, Nat.one_mul]
    omega
theorem join_calls (v : Value) (xs : List ByteArray) (c : UInt8) (w : World) (av : Nat → Prop) (hv : VSlice 1 VStr w av [v] xs) (hn : xs.length ≤ 1000000) (hl : (joinC c (xs.map (·.data.toList))).length ≤ 1000000000) :
    Calls Tryz.prog 56 #[v, .string ⟨#[c]⟩] w fun e w' => e = .returned (.string ⟨(joinC c (xs.map (·.data.toList))).toArray⟩) ∧ Below w.heap.size w w' := by
  obtain ⟨A, k, rfl, hk, hx⟩ := hv.open
  by_cases h0 : xs = []
  · subst h0
    refine (Shelf.strings_Join_none A k ⟨#[c]⟩ w).mono ?_
    rintro e w' ⟨rfl, rfl⟩
    exact ⟨rfl, Below.refl _ _⟩
  · obtain ⟨b, o, rfl, _, hb, hc⟩ := hx h0
    have e1 : (⟨#[c]⟩ : ByteArray).data.toList = [c] := rfl
    refine (Shelf.strings_Join b o k xs ⟨#[c]⟩ w (fun j x hj => by
      obtain ⟨ws, e1, e2⟩ := hc j x hj
      have e1' : ws = [.string x] := e1
      subst e1'
      have := e2 0 _ rfl
      simpa using this) hb (by omega) hk (by rw [e1, join_joinC]; omega)).mono ?_
    rintro e w' ⟨rfl, hb⟩
    refine ⟨?_, hb⟩
    rw [e1, join_joinC]
theorem textsTy : RowTy Tryz.prog 52 9 1 := rowTy_of Tryz.underlying52 (by kernel_rfl) (by decide)
def mkB (l : List UInt8) : ByteArray := ⟨l.toArray⟩
theorem mkB_list (l : List UInt8) : (mkB l).data.toList = l := by simp [mkB]
theorem map_mkB {α : Type} (f : α → List UInt8) (l : List α) : (l.map fun a => mkB (f a)).map (·.data.toList) = l.map f := by
  rw [List.map_map]
  exact List.map_congr_left (fun a _ => mkB_list _)
theorem ava_text (a : Ava) : a.1 ++ ⟨#[61]⟩ ++ ⟨(Esc.outF (Esc.nameR a.2.size) 0 a.2.data.toList).toArray⟩ = mkB (avaL a) := by
  rw [← Txt.mk_list (a.1 ++ ⟨#[61]⟩ ++ ⟨(Esc.outF (Esc.nameR a.2.size) 0 a.2.data.toList).toArray⟩)]
  unfold mkB
  congr 2
  simp [avaL]
end Go.Proofs.YtjmpkbmgcbalkaaGreatDoor.Dn
/- errors.As and errors.Is at an error type of the package Dn: a struct of one cell (Go's text of both is walked). No conditions beyond the shape of memory that each theorem names. -/
namespace Go.Proofs.YtjmpkbmgcbalkaaGreatDoor.AsDn
open Go.RowKit Go.Extern.Stop Go.Stop Go.Extern
theorem rlm (z : Sem Value) (f : TypeId → Addr → Nat → Nat → Sem Value) (v : Value) :
    ReflectliteValue.method z f #[v] = (do match ← ReflectliteValue.parts v with | none => z | some (t, a, fl) => f t a fl (fl % 32)) := rfl
theorem rls (v x : Value) : ReflectliteValue.set #[v, x] = (do
    let (some (dst, a, fl), some (src, b, _)) := (← ReflectliteValue.parts v, ← ReflectliteValue.parts x)
      | unsupported (.noEntry "extern/(internal/reflectlite.Value).Set.zeroValue")
    if fl / ReflectliteValue.flagAddr % 2 == 0 then unsupported (.noEntry "extern/(internal/reflectlite.Value).Set.unaddressable")
    let val ← loadVar src b
    if ← Rtype.directlyAssignable dst src then storeVar dst a val
    else if ← Rtype.implements dst src then
      if (← Rtype.kind src) == 20 then
        match val with
        | .nilIface => unsupported (.noEntry "extern/reflectlite: a nil value of one interface type handed on as a value of another")
        | _ => storeVar dst a val
      else storeVar dst a (.iface src val)
    else panicString ("reflectlite.Set: value of type " ++ (← Rtype.spelt src) ++ " is not assignable to type " ++ (← Rtype.spelt dst))
    pure (.tuple #[])) := rfl
theorem below_setRow {B g : Nat} {w w' : World} (h : Below B w w') (hB : B ≤ g) (cs : Array Value) : Below B w (w'.setRow g cs) :=
  h.trans ⟨rfl, rfl, rfl, by simp [World.setRow], fun k hk => by simp only [World.setRow, Array.getElem?_modify]; rw [if_neg (by omega)]⟩
theorem valueOfP (t : Addr) (w : World) : (ReflectliteValue.unpack (.iface 72 (.pointer (some t)))).run Tryz.prog w
    = .ok (.agg #[.pointer (some ⟨8, 72, none⟩), .pointer (some ⟨w.heap.size, 0, none⟩), .int .u64 150]) (w.alloc (.cells #[.pointer (some t)] 72)) := by kernel_rfl
theorem typeP (a : Addr) (w : World) : (ReflectliteValue.methodAny (ReflectliteValue.valueError "reflectlite.Value.Type" 0) (fun t _ _ _ => ReflectliteType.toType t) #[.agg #[.pointer (some ⟨8, 72, none⟩), .pointer (some a), .int .u64 150]]).run Tryz.prog w
    = .ok (.iface 126 (.agg #[.pointer (some ⟨8, 72, none⟩)])) w := by kernel_rfl
theorem elemP (w : World) : (ReflectliteType.method ReflectliteType.elem #[.agg #[.pointer (some ⟨8, 72, none⟩)]]).run Tryz.prog w = .ok (.iface 126 (.agg #[.pointer (some ⟨8, 46, none⟩)])) w := by kernel_rfl
theorem kindP (w : World) : ((ReflectliteType.abiMethod fun t => (fun a : Nat => Value.int IntKind.u8 (a : Int)) <$> Rtype.kind t) #[.pointer (some ⟨8, 72, none⟩)]).run Tryz.prog w = .ok (.int .u8 22) w := by kernel_rfl
theorem kindW (w : World) : ((ReflectliteType.abiMethod fun t => (fun a : Nat => Value.int IntKind.u8 (a : Int)) <$> Rtype.kind t) #[.pointer (some ⟨8, 46, none⟩)]).run Tryz.prog w = .ok (.int .u8 25) w := by kernel_rfl
theorem implementsW (w : World) : (ReflectliteType.relation "Implements" ReflectliteType.implements_ #[.agg #[.pointer (some ⟨8, 46, none⟩)], .iface 126 (.agg #[.pointer (some ⟨8, 49, none⟩)])]).run Tryz.prog w = .ok (.bool true) w := by kernel_rfl
theorem typeOfW (v : Value) (w : World) : (ReflectliteType.typeOf #[.iface 46 v]).run Tryz.prog w = .ok (.iface 126 (.agg #[.pointer (some ⟨8, 46, none⟩)])) w := by kernel_rfl
theorem assignW (w : World) : (ReflectliteType.relation "AssignableTo" ReflectliteType.assignableTo #[.agg #[.pointer (some ⟨8, 46, none⟩)], .iface 126 (.agg #[.pointer (some ⟨8, 46, none⟩)])]).run Tryz.prog w = .ok (.bool true) w := by kernel_rfl
theorem valueOfW (x : Value) (w : World) : (ReflectliteValue.unpack (.iface 46 (.agg #[x]))).run Tryz.prog w
    = .ok (.agg #[.pointer (some ⟨8, 46, none⟩), .pointer (some ⟨w.heap.size, 0, none⟩), .int .u64 153]) (w.alloc (.cells #[x] 46)) := by kernel_rfl
theorem methodKind (h : Value) (w : World) : (Go.method 319 126 (.agg #[h]) "Kind").run Tryz.prog w = .ok (149, h) w := by kernel_rfl
theorem methodElem (h : Value) (w : World) : (Go.method 319 126 (.agg #[h]) "Elem").run Tryz.prog w = .ok (161, .agg #[h]) w := by kernel_rfl
theorem methodImplements (h : Value) (w : World) : (Go.method 319 126 (.agg #[h]) "Implements").run Tryz.prog w = .ok (162, .agg #[h]) w := by kernel_rfl
theorem methodAssignableTo (h : Value) (w : World) : (Go.method 319 126 (.agg #[h]) "AssignableTo").run Tryz.prog w = .ok (159, .agg #[h]) w := by kernel_rfl
theorem parts (a : Addr) (w : World) : (ReflectliteValue.parts (.agg #[.pointer (some ⟨8, 72, none⟩), .pointer (some a), .int .u64 150])).run Tryz.prog w = .ok (some (72, a, 150)) w := by kernel_rfl
theorem partsWa (a : Addr) (w : World) : (ReflectliteValue.parts (.agg #[.pointer (some ⟨8, 46, none⟩), .pointer (some a), .int .u64 409])).run Tryz.prog w = .ok (some (46, a, 409)) w := by kernel_rfl
theorem partsW (a : Addr) (w : World) : (ReflectliteValue.parts (.agg #[.pointer (some ⟨8, 46, none⟩), .pointer (some a), .int .u64 153])).run Tryz.prog w = .ok (some (46, a, 153)) w := by kernel_rfl
theorem elemOf (w : World) : (Rtype.elem? 72).run Tryz.prog w = .ok (some 46) w := by kernel_rfl
theorem mkW (p : Addr) (w : World) : (ReflectliteValue.mk 46 p ReflectliteValue.flagAddr).run Tryz.prog w = .ok (.agg #[.pointer (some ⟨8, 46, none⟩), .pointer (some p), .int .u64 409]) w := by kernel_rfl
theorem isNil (a p : Addr) (W : World) (ha : W.cell? a = some (.pointer (some p))) :
    (ReflectliteValue.method (ReflectliteValue.valueError "reflectlite.Value.IsNil" 0) ReflectliteValue.isNil #[.agg #[.pointer (some ⟨8, 72, none⟩), .pointer (some a), .int .u64 150]]).run Tryz.prog W = .ok (.bool false) W := by
  rw [rlm]
  simp only [Sem.run_bind, parts, Result.andThen]
  simp [ReflectliteValue.isNil, loadVar, isAgg, underlying, Tryz.underlying72, ha, Result.andThen]
theorem elemV (a p : Addr) (W : World) (ha : W.cell? a = some (.pointer (some p))) :
    (ReflectliteValue.method (ReflectliteValue.valueError "reflectlite.Value.Elem" 0) ReflectliteValue.elem #[.agg #[.pointer (some ⟨8, 72, none⟩), .pointer (some a), .int .u64 150]]).run Tryz.prog W
      = .ok (.agg #[.pointer (some ⟨8, 46, none⟩), .pointer (some p), .int .u64 409]) W := by
  rw [rlm]
  simp only [Sem.run_bind, parts, Result.andThen]
  simp [ReflectliteValue.elem, loadVar, isAgg, underlying, Tryz.underlying72, ha, Result.andThen, elemOf, mkW]
theorem direct (w : World) : (Rtype.directlyAssignable 46 46).run Tryz.prog w = .ok true w := by kernel_rfl
theorem setW (g b : Nat) (old0 x : Value) (fr : Nat × Nat) (W : World) (hx : x.oneCell' = true) (hb : W.heap[b]? = some (.cells #[x] 46 fr)) (ht : W.heap[g]? = some (.cells #[old0] 46 (0, 0))) :
    (ReflectliteValue.set #[.agg #[.pointer (some ⟨8, 46, none⟩), .pointer (some ⟨g, 0, none⟩), .int .u64 409], .agg #[.pointer (some ⟨8, 46, none⟩), .pointer (some ⟨b, 0, none⟩), .int .u64 153]]).run Tryz.prog W
      = .ok (.tuple #[]) (W.setRow g #[x]) := by
  have hl := run_loadVar_row (P := Tryz.prog) W b 46 46 #[x] fr _ hb Tryz.underlying46 rfl (by kernel_rfl)
  have hs := run_storeVar_row (P := Tryz.prog) W g 46 46 #[old0] #[x] ht (by kernel_rfl) rfl (by simp [hx])
  rw [rls]
  simp only [Sem.run_bind, partsWa, partsW, Result.andThen]
  simp [ReflectliteValue.flagAddr, hl, hs, Result.andThen, direct]
set_option maxHeartbeats 4000000 in
set_option maxRecDepth 100000 in
theorem as_hit (g : Nat) (old0 x : Value) (w : World) (hx : x.oneCell' = true) (hg : w.cell? ⟨1, 0, none⟩ = some (.iface 126 (.agg #[.pointer (some ⟨8, 49, none⟩)])))
    (ht : w.heap[g]? = some (.cells #[old0] 46 (0, 0))) :
    Calls Tryz.prog 55 #[.iface 46 (.agg #[x]), .iface 72 (.pointer (some ⟨g, 0, none⟩))] w fun ev w' => ev = .returned (.bool true) ∧ Below g w w' ∧ w'.heap[g]? = some (.cells #[x] 46 (0, 0)) := by
  have h6 := @run_callFunc_extern Tryz.prog 76 _ (fun args => ReflectliteValue.unpack (args.getD 0 (.tuple #[]))) Tryz.func76 (by kernel_rfl) (by kernel_rfl) (by kernel_rfl) (by kernel_rfl)
  have h7 := @run_callFunc_extern Tryz.prog 77 _ (ReflectliteValue.methodAny (ReflectliteValue.valueError "reflectlite.Value.Type" 0) (fun t _ _ _ => ReflectliteType.toType t)) Tryz.func77 (by kernel_rfl) (by kernel_rfl) (by kernel_rfl) (by kernel_rfl)
  have h8 := @run_callFunc_extern Tryz.prog 78 _ (ReflectliteValue.method (ReflectliteValue.valueError "reflectlite.Value.IsNil" 0) ReflectliteValue.isNil) Tryz.func78 (by kernel_rfl) (by kernel_rfl) (by kernel_rfl) (by kernel_rfl)
  have h27 := @run_callFunc_extern Tryz.prog 149 _ (ReflectliteType.abiMethod fun t => do pure (.int .u8 (← Rtype.kind t))) Tryz.func149 (by kernel_rfl) (by kernel_rfl) (by kernel_rfl) (by kernel_rfl)
  have h37 := @run_callFunc_extern Tryz.prog 161 _ (ReflectliteType.method ReflectliteType.elem) Tryz.func161 (by kernel_rfl) (by kernel_rfl) (by kernel_rfl) (by kernel_rfl)
  have h38 := @run_callFunc_extern Tryz.prog 162 _ (ReflectliteType.relation "Implements" ReflectliteType.implements_) Tryz.func162 (by kernel_rfl) (by kernel_rfl) (by kernel_rfl) (by kernel_rfl)
  have h10 := @run_callFunc_extern Tryz.prog 74 _ ReflectliteType.typeOf Tryz.func74 (by kernel_rfl) (by kernel_rfl) (by kernel_rfl) (by kernel_rfl)
  have h35 := @run_callFunc_extern Tryz.prog 159 _ (ReflectliteType.relation "AssignableTo" ReflectliteType.assignableTo) Tryz.func159 (by kernel_rfl) (by kernel_rfl) (by kernel_rfl) (by kernel_rfl)
  have h11 := @run_callFunc_extern Tryz.prog 93 _ (ReflectliteValue.method (ReflectliteValue.valueError "reflectlite.Value.Elem" 0) ReflectliteValue.elem) Tryz.func93 (by kernel_rfl) (by kernel_rfl) (by kernel_rfl) (by kernel_rfl)
  have h12 := @run_callFunc_extern Tryz.prog 94 _ ReflectliteValue.set Tryz.func94 (by kernel_rfl) (by kernel_rfl) (by kernel_rfl) (by kernel_rfl)
  have tO := typeOfW
  have mA := methodAssignableTo
  have a25 := assignW
  have v25 := valueOfW
  have f6 := valueOfP
  have f7 := typeP
  have mK := methodKind
  have mE := methodElem
  have mI := methodImplements
  have k27 := kindP
  have k25 := kindW
  have e27 := elemP
  have i25 := implementsW
  have hlt : g < w.heap.size := by
    rcases Nat.lt_or_ge g w.heap.size with h | h
    · exact h
    · simp [Array.getElem?_eq_none h] at ht
  have hgg : 1 < w.heap.size := by
    rcases Nat.lt_or_ge 1 w.heap.size with h | h
    · exact h
    · simp [World.cell?, Array.getElem?_eq_none h] at hg
  have hg2 : ((w.alloc (.cells #[.pointer (some ⟨g, 0, none⟩)] 72)).alloc (.cells #[.pointer (some ⟨8, 72, none⟩), .pointer (some ⟨w.heap.size, 0, none⟩), .int .u64 150] 108)).cell? ⟨1, 0, none⟩ = some (.iface 126 (.agg #[.pointer (some ⟨8, 49, none⟩)])) := by
    rw [World.cell?_alloc_lt _ _ ⟨1, 0, none⟩ (by simp; omega), World.cell?_alloc_lt _ _ ⟨1, 0, none⟩ hgg]; exact hg
  have n8 := isNil ⟨w.heap.size, 0, none⟩ ⟨g, 0, none⟩ ((w.alloc (.cells #[.pointer (some ⟨g, 0, none⟩)] 72)).alloc (.cells #[.pointer (some ⟨8, 72, none⟩), .pointer (some ⟨w.heap.size, 0, none⟩), .int .u64 150] 108)) (by simp)
  have el := elemV ⟨w.heap.size, 0, none⟩ ⟨g, 0, none⟩ (((w.alloc (.cells #[.pointer (some ⟨g, 0, none⟩)] 72)).alloc (.cells #[.pointer (some ⟨8, 72, none⟩), .pointer (some ⟨w.heap.size, 0, none⟩), .int .u64 150] 108)).alloc (.cells #[.pointer (some ⟨8, 72, none⟩), .pointer (some ⟨w.heap.size, 0, none⟩), .int .u64 150] 108)) (by rw [World.cell?_alloc_lt _ _ ⟨w.heap.size, 0, none⟩ (by simp; omega)]; simp)
  have st := setW g (w.heap.size + 1 + 1 + 1) old0 x (0, 0) ((((w.alloc (.cells #[.pointer (some ⟨g, 0, none⟩)] 72)).alloc (.cells #[.pointer (some ⟨8, 72, none⟩), .pointer (some ⟨w.heap.size, 0, none⟩), .int .u64 150] 108)).alloc (.cells #[.pointer (some ⟨8, 72, none⟩), .pointer (some ⟨w.heap.size, 0, none⟩), .int .u64 150] 108)).alloc (.cells #[x] 46)) hx (by have := World.alloc_heap_new (((w.alloc (.cells #[.pointer (some ⟨g, 0, none⟩)] 72)).alloc (.cells #[.pointer (some ⟨8, 72, none⟩), .pointer (some ⟨w.heap.size, 0, none⟩), .int .u64 150] 108)).alloc (.cells #[.pointer (some ⟨8, 72, none⟩), .pointer (some ⟨w.heap.size, 0, none⟩), .int .u64 150] 108)) (.cells #[x] 46); simpa using this) (by rw [Below.heap_alloc _ _ _ (by simp; omega), Below.heap_alloc _ _ _ (by simp; omega), Below.heap_alloc _ _ _ (by simp; omega), Below.heap_alloc _ _ _ hlt]; exact ht)
  go_enter Tryz.func55, Tryz.ntmps55
  go_wp2
  refine wp_loop_rounds 1 ?_
  rw [rounds_succ]
  go_wp2
  go_ret
  refine ⟨rfl, ?_, ?_⟩
  · exact below_setRow ((((((Below.refl g w).alloc (by omega) _).alloc (by simp; omega) _).alloc (by simp; omega) _).alloc (by simp; omega) _)) (Nat.le_refl _) _
  · refine setRow_heap _ g #[old0] _ _ _ ?_
    rw [Below.heap_alloc _ _ _ (by simp; omega), Below.heap_alloc _ _ _ (by simp; omega), Below.heap_alloc _ _ _ (by simp; omega), Below.heap_alloc _ _ _ hlt]; exact ht
set_option maxRecDepth 100000 in
theorem as_nil (g : Nat) (old0 : Value) (w : World) (ht : w.heap[g]? = some (.cells #[old0] 46 (0, 0))) :
    Calls Tryz.prog 55 #[.nilIface, .iface 72 (.pointer (some ⟨g, 0, none⟩))] w fun ev w' => ev = .returned (.bool false) ∧ Below w.heap.size w w' := by
  go_enter Tryz.func55, Tryz.ntmps55
  go_wp2
  go_ret
  exact ⟨rfl, Below.refl _ _⟩
end Go.Proofs.YtjmpkbmgcbalkaaGreatDoor.AsDn
/- errors.Is at an error of the package Dn that wraps the package's sentinel, against a sentinel: true just if it is that one (Go's text is walked). No conditions beyond the shape of memory that each theorem names. -/
namespace Go.Proofs.YtjmpkbmgcbalkaaGreatDoor.IsDn
open Go.RowKit Go.Extern.Stop Go.Stop Go.Extern
theorem isTypeOf (v : Value) (w : World) : (Extern.ReflectliteType.typeOf #[.iface 189 v]).run Tryz.prog w = .ok (.iface 126 (.agg #[.pointer (some ⟨8, 189, none⟩)])) w := by kernel_rfl
def cmpEntry : Array Value → Sem Value := Extern.ReflectliteType.method fun t => do Rtype.noPackHeld "Comparable" t; pure (.bool (← typeInfo t).comparable)
theorem isComparable (w : World) : (cmpEntry #[.agg #[.pointer (some ⟨8, 189, none⟩)]]).run Tryz.prog w = .ok (.bool true) w := by kernel_rfl
theorem isMethodComparable (v : Value) (w : World) : (Go.method 319 126 v "Comparable").run Tryz.prog w = .ok (160, v) w := by kernel_rfl
theorem isComp : (Tryz.prog.info? 189).map (·.comparable) = some true := by kernel_rfl
theorem isSize : (Tryz.prog.info? 208).map (·.size) = some 1 := by kernel_rfl
theorem noIsE (v : Value) (xT : TypeId) (w : World) : (Instr.typeAssert (.iface 189 v) xT 128 true).run Tryz.prog w = .ok (.tuple #[.nilIface, .bool false]) w := run_typeAssert_lacksB Tryz.underlying128 (by kernel_rfl) (by kernel_rfl) v xT w
theorem noUnwrapE (v : Value) (xT : TypeId) (w : World) : (Instr.typeAssert (.iface 189 v) xT 131 true).run Tryz.prog w = .ok (.tuple #[.nilIface, .bool false]) w := run_typeAssert_lacksB Tryz.underlying131 (by kernel_rfl) (by kernel_rfl) v xT w
theorem noUnwrapsE (v : Value) (xT : TypeId) (w : World) : (Instr.typeAssert (.iface 189 v) xT 133 true).run Tryz.prog w = .ok (.tuple #[.nilIface, .bool false]) w := run_typeAssert_lacksB Tryz.underlying133 (by kernel_rfl) (by kernel_rfl) v xT w
theorem noIsW (v : Value) (xT : TypeId) (w : World) : (Instr.typeAssert (.iface 46 v) xT 128 true).run Tryz.prog w = .ok (.tuple #[.nilIface, .bool false]) w := run_typeAssert_lacksB Tryz.underlying128 (by kernel_rfl) (by kernel_rfl) v xT w
theorem hasUnwrapW (v : Value) (xT : TypeId) (w : World) : (Instr.typeAssert (.iface 46 v) xT 131 true).run Tryz.prog w = .ok (.tuple #[.iface 46 v, .bool true]) w := run_typeAssert_hasB Tryz.underlying131 (by kernel_rfl) v xT w
theorem methodUnwrap (v : Value) (w : World) : (Go.method 319 46 v "Unwrap").run Tryz.prog w = .ok (153, v) w := by kernel_rfl
theorem unwrap (x : Value) (b : Addr) (w : World) (hg : w.cell? ⟨0, 0, none⟩ = some (.iface 189 (.pointer (some b)))) : Calls Tryz.prog 153 #[.agg #[x]] w fun e w' => e = .returned (.iface 189 (.pointer (some b))) ∧ w.alloc (.cells #[x] 46) = w' := by
  have hlt := World.block_lt_of_cell? w _ hg
  go_enter Tryz.func153, Tryz.ntmps153
  go_wp2
  go_ret
  exact ⟨rfl, rfl⟩
set_option maxRecDepth 100000 in
set_option maxHeartbeats 4000000 in
theorem is_same (x : Value) (b : Addr) (w : World) (hg : w.cell? ⟨0, 0, none⟩ = some (.iface 189 (.pointer (some b)))) :
    Calls Tryz.prog 54 #[.iface 46 (.agg #[x]), .iface 189 (.pointer (some b))] w fun e w' => e = .returned (.bool true) ∧ w.alloc (.cells #[x] 46) = w' := by
  obtain ⟨i, hi, hcmp⟩ := Option.map_eq_some_iff.1 isComp
  obtain ⟨j, hj, hjs⟩ := Option.map_eq_some_iff.1 isSize
  have h8 := @run_callFunc_extern Tryz.prog 74 _ Extern.ReflectliteType.typeOf Tryz.func74 (by kernel_rfl) (by kernel_rfl) (by kernel_rfl) (by kernel_rfl)
  have h32 := @run_callFunc_extern Tryz.prog 160 _ cmpEntry Tryz.func160 (by kernel_rfl) (by kernel_rfl) (by kernel_rfl) (by kernel_rfl)
  have tT := isTypeOf
  have cT := isComparable
  have mR := isMethodComparable
  have nE := noIsE
  have uE := noUnwrapE
  have vE := noUnwrapsE
  have nW := noIsW
  have uW := hasUnwrapW
  have mU := methodUnwrap
  have heq := run_eql_iface_ptr_same (P := Tryz.prog) (w.alloc (.cells #[x] 46)) b Tryz.underlying49 Tryz.underlying189 hi hcmp hj
  have hty := run_eql_iface_types (P := Tryz.prog) 46 189 (.agg #[x]) (.pointer (some b)) Tryz.underlying49 (by decide) w
  clear hi hcmp hj hjs
  have hlt := World.block_lt_of_cell? w _ hg
  go_enter Tryz.func54, Tryz.ntmps54
  go_wp2
  refine wp_loop_rounds 2 ?_
  rw [rounds_succ]
  go_wp2
  rw [rounds_succ]
  go_wp2
  go_ret
  exact ⟨rfl, rfl⟩
set_option maxRecDepth 100000 in
theorem is_nil (b : Addr) (w : World) :
    Calls Tryz.prog 54 #[.nilIface, .iface 189 (.pointer (some b))] w fun e w' => e = .returned (.bool false) ∧ w = w' := by
  have hnl := fun w => run_eql_iface_nil_left (P := Tryz.prog) (w := w) 189 (.pointer (some b)) Tryz.underlying49
  go_enter Tryz.func54, Tryz.ntmps54
  go_wp2
  go_ret
  exact ⟨rfl, rfl⟩
end Go.Proofs.YtjmpkbmgcbalkaaGreatDoor.IsDn
/- dn.told: the number of an error of the package dn. Conditions: the package's variable holds its sentinel. -/
namespace Go.Proofs.YtjmpkbmgcbalkaaGreatDoor.ToldDn
open Go.RowKit
theorem told_nil (w : World) (p : Nat → Addr) (h : Globs w p) : Calls Tryz.prog 29 #[.nilIface] w fun e w' => e = .returned (.int .i64 0) ∧ Below w.heap.size w w' := by
  have k0 := h.cell 0 (by decide)
  have hlt := World.block_lt_of_cell? w _ k0
  clear h
  go_enter Tryz.func29, Tryz.ntmps29
  go_wp2_with fail
  have h1 := Aside.mk (below_new w (.cells #[.string ⟨#[]⟩] 46))
  refine (IsDn.is_nil _ _).mono ?_
  rintro e w0 ⟨rfl, rfl⟩
  go_wp2
  go_ret
  exact ⟨rfl, h1.out⟩
set_option maxHeartbeats 1000000 in
theorem told_wrong (x : Value) (hx : x.oneCell' = true) (w : World) (p : Nat → Addr) (h : Globs w p) :
    Calls Tryz.prog 29 #[.iface 46 (.agg #[x])] w fun e w' => e = .returned (.int .i64 70) ∧ Below w.heap.size w w' := by
  have k0 := h.cell 0 (by decide)
  have hlt := World.block_lt_of_cell? w _ k0
  go_enter Tryz.func29, Tryz.ntmps29
  go_wp2_with fail
  have h1 : Below w.heap.size w (w.alloc (.cells #[.string ⟨#[]⟩] 46)) := below_new _ _
  have k1 := cell_below k0 h1
  refine (IsDn.is_same x _ _ k1).mono ?_
  rintro e w1 ⟨rfl, hb⟩
  have h2 : Below w.heap.size w w1 := below_then h1 (by rw [← hb]; exact below_new _ _)
  have hc : w1.heap[w.heap.size]? = some (.cells #[.string ⟨#[]⟩] 46 (0, 0)) := by rw [← hb]; exact blk_below (World.alloc_heap_new w _) (below_new _ _)
  have HC := Aside.mk hc
  have H2 := Aside.mk h2
  have H3 := Aside.mk (h.below h2).et
  have hlt1 : w.heap.size < w1.heap.size := (Array.getElem?_eq_some_iff.1 hc).1
  clear k0 k1 hb hlt h h1 h2 hc
  go_wp2_with fail
  refine (AsDn.as_hit w.heap.size (.string ⟨#[]⟩) x _ hx H3.out HC.out).mono ?_
  rintro e w0 ⟨rfl, hb, hc⟩
  have H0 := Aside.mk (H2.out.trans hb)
  clear hb hc
  go_wp2
  go_ret
  exact ⟨rfl, H0.out⟩
end Go.Proofs.YtjmpkbmgcbalkaaGreatDoor.ToldDn
/- dn: names as values without memory; the contracts of dn's functions in that way of telling. Conditions: as in these contracts. -/
namespace Go.Proofs.YtjmpkbmgcbalkaaGreatDoor.Dn
open Go.RowKit
set_option linter.unusedVariables false
def cAva (a : Ava) : List V := [.str a.1, .str a.2]
def cRdn (r : Rdn) : List V := [.sl (r.map cAva)]
def vName (d : Name) : V := .sl (d.map cRdn)
theorem repl_one {w : World} {L : Lv} {x : V} {cs : List Value} (h : RepL w L [x] cs) : ∃ u, cs = [u] ∧ Rep w L x u := by
  obtain ⟨u, us, rfl, _, h1, h2⟩ := h
  rw [show us = [] from h2]
  exact ⟨u, rfl, h1⟩
theorem rdn_view {w : World} {L : Lv} (r : Rdn) (cs : List Value) (h : RepL w L (cRdn r) cs) : VRdn w (fun _ => True) cs r := by
  obtain ⟨u, rfl, h1⟩ := repl_one h
  refine rep_view (k := 2) (enc := cAva) (by omega) (fun _ => rfl) (fun a cs h => ?_) h1
  obtain ⟨u1, us, rfl, _, e1, u2, us2, rfl, _, e2, e3⟩ := h
  rw [show us2 = [] from e3]
  exact ⟨[u1], [u2], rfl, by rw [show u1 = _ from e1]; rfl, by rw [show u2 = _ from e2]; rfl⟩
theorem name_view {w : World} {L : Lv} {d : Name} {v : Value} (h : Rep w L (vName d) v) : VName w (fun _ => True) [v] d := rep_view (k := 1) (enc := cRdn) (by omega) (fun _ => rfl) rdn_view h
theorem one_arg {P : Program} {w : World} {g : Gh} {t : T} {vs : List Value} (h : RepTs P w g [t] vs) : ∃ v, vs = [v] ∧ RepT P w g t v := by
  obtain ⟨v, us, rfl, h1, h2⟩ := h
  rw [show us = [] from h2]
  exact ⟨v, rfl, h1⟩
theorem two_args {P : Program} {w : World} {g : Gh} {t t' : T} {vs : List Value} (h : RepTs P w g [t, t'] vs) : ∃ v v', vs = [v, v'] ∧ RepT P w g t v ∧ RepT P w g t' v' := by
  obtain ⟨v, us, rfl, h1, h2⟩ := h
  obtain ⟨v', rfl, h3⟩ := one_arg h2
  exact ⟨v, v', rfl, h1, h3⟩
variable (p : Nat → Addr)
theorem right_fn (d : Name) : Fn Tryz.prog (envX p) 19 [.v (vName d)] (.v (.bool (rightB d))) :=
  Fn.of_plain (enter_of (by kernel_rfl)) rfl fun w L vs hE ha => by
    obtain ⟨v, rfl, h⟩ := one_arg ha
    exact right_calls v d w p hE (name_view h)
theorem same_fn (d d' : Name) (hd : NameOk d) : Fn Tryz.prog (envX p) 21 [.v (vName d), .v (vName d')] (.v (.bool (decide (d = d')))) :=
  Fn.of_plain (enter_of (by kernel_rfl)) rfl fun w L vs hE ha => by
    obtain ⟨v, v', rfl, h, h'⟩ := two_args ha
    exact same_calls v v' d d' w (name_view h) (name_view h') hd
theorem under_fn (d b : Name) (hd : NameOk d) (hb : b.length ≤ 1000000000) : Fn Tryz.prog (envX p) 23 [.v (vName d), .v (vName b)] (.v (.bool (underB d b))) :=
  Fn.of_plain (enter_of (by kernel_rfl)) rfl fun w L vs hE ha => by
    obtain ⟨v, v', rfl, h, h'⟩ := two_args ha
    exact under_calls v v' d b w (name_view h) (name_view h') hd hb
theorem type_fn (s : ByteArray) : Fn Tryz.prog (envX p) 25 [.v (.str s)] (.v (.bool (typeB s.data.toList))) :=
  Fn.of_plain (enter_of (by kernel_rfl)) rfl fun w L vs hE ha => by
    obtain ⟨v, rfl, h⟩ := one_arg ha
    rw [show v = .string s from h]
    exact type_calls s w p hE
theorem escName_fn (s : ByteArray) (hs : s.size ≤ 1000000) : Fn Tryz.prog (envX p) 27 [.v (.str s)] (.v (.str ⟨(Esc.outF (Esc.nameR s.size) 0 s.data.toList).toArray⟩)) :=
  Fn.of_plain (enter_of (by kernel_rfl)) rfl fun w L vs hE ha => by
    obtain ⟨v, rfl, h⟩ := one_arg ha
    rw [show v = .string s from h]
    exact Esc.name_calls s hs w
theorem join_fn (xs : List ByteArray) (c : UInt8) (hn : xs.length ≤ 1000000) (hl : (joinC c (xs.map (·.data.toList))).length ≤ 1000000000) : Fn Tryz.prog (envX p) 56 [.v (.sl (xs.map fun x => [V.str x])), .v (.str ⟨#[c]⟩)] (.v (.str (mkB (joinC c (xs.map (·.data.toList)))))) :=
  Fn.of_plain (enter_of (by kernel_rfl)) rfl fun w L vs hE ha => by
    obtain ⟨v, v', rfl, h, h'⟩ := two_args ha
    rw [show v' = .string ⟨#[c]⟩ from h']
    refine join_calls v xs c w _ (rep_view (k := 1) (R := VStr) (enc := fun x => [V.str x]) (by omega) (fun _ => rfl) (fun x cs h => ?_) h) hn hl
    obtain ⟨u, rfl, h1⟩ := repl_one h
    rw [show u = .string x from h1]
    rfl
/-- an error of dn's -/
def dnErr (s : ByteArray) : V := .ifc 46 (.agg [.str s])
theorem told_nil_fn : Fn Tryz.prog (envX p) 29 [.v .nili] (.v (.int .i64 0)) :=
  Fn.of_plain (enter_of (by kernel_rfl)) rfl fun w L vs hE ha => by
    obtain ⟨v, rfl, h⟩ := one_arg ha
    rw [show v = .nilIface from h]
    exact ToldDn.told_nil w p hE.gl
theorem told_wrong_fn (s : ByteArray) : Fn Tryz.prog (envX p) 29 [.v (dnErr s)] (.v (.int .i64 70)) :=
  Fn.of_plain (enter_of (by kernel_rfl)) rfl fun w L vs hE ha => by
    obtain ⟨v, rfl, h⟩ := one_arg ha
    obtain ⟨u, rfl, cs, rfl, h1⟩ := h
    obtain ⟨u, h2, h3⟩ := repl_one h1
    have : cs = #[.string s] := by
      rw [show u = _ from h3] at h2
      exact Array.toList_inj.1 h2
    rw [this]
    exact ToldDn.told_wrong (.string s) rfl w p hE.gl
/-- what a part may be -/
def partV (s : ByteArray) : T := match partA s with
  | some a => .tup [.v (.agg (cAva a)), .v .nili]
  | none => .tup [.v (.agg (cAva (⟨#[]⟩, ⟨#[]⟩))), .v (dnErr s)]
theorem part_fn (s : ByteArray) (hs : s.size ≤ 1000000) : Fn Tryz.prog (envX p) 60 [.v (.str s)] (partV s) := by
  refine ⟨enter_of (by kernel_rfl), fun w L vs hE hL ha => ?_⟩
  obtain ⟨v, rfl, h⟩ := one_arg ha
  rw [show v = .string s from h]
  refine (part_calls s hs w p hE).mono ?_
  rintro e w' ⟨h1, hb⟩
  have fin : ∀ {t : T} {v : Value}, e = .returned v → RepT Tryz.prog w' ⟨L, fun _ => (0, 0), fun _ => undef⟩ t v → ∃ v L', e = .returned v ∧ Below w.heap.size w w' ∧ Same L w L' w' ∧ (∀ {b o}, L' b o → L b o ∨ w.heap.size ≤ b) ∧ (∀ {b o}, L' b o → ∃ u, w'.cell? ⟨b, o, none⟩ = some u) ∧ RepT Tryz.prog w' ⟨L', fun _ => (0, 0), fun _ => undef⟩ t v := fun {t v} he hr =>
    ⟨v, L, he, hb, Same.of_below hb, .inl, fun hl => let ⟨u, hu⟩ := hL hl; ⟨u, cell_below hu hb⟩, hr⟩
  rcases h1 with ⟨a, h2, he⟩ | ⟨h2, he⟩
  · rw [partV, h2]
    exact fin he ⟨_, rfl, _, _, rfl, ⟨_, rfl, _, _, rfl, rfl, rfl, _, _, rfl, rfl, rfl, rfl⟩, _, _, rfl, rfl, rfl⟩
  · rw [partV, h2]
    exact fin he ⟨_, rfl, _, _, rfl, ⟨_, rfl, _, _, rfl, rfl, rfl, _, _, rfl, rfl, rfl, rfl⟩, _, _, rfl, ⟨_, rfl, _, rfl, _, _, rfl, rfl, rfl, rfl⟩, rfl⟩
end Go.Proofs.YtjmpkbmgcbalkaaGreatDoor.Dn
/- dn's laws: a name cut to its first ten parts, each to its first five pairs, each to 21 and 61 bytes. No conditions. -/
namespace Go.Proofs.YtjmpkbmgcbalkaaGreatDoor.Dn
open Go.RowKit
def cutB (s : ByteArray) (n : Nat) : ByteArray := s.extract 0 (min s.size n)
def cutAva (a : Ava) : Ava := (cutB a.1 21, cutB a.2 61)
def cutRdn (r : Rdn) : Rdn := (r.take 5).map cutAva
def cutName (d : Name) : Name := (d.take 10).map cutRdn
theorem cut_fn (X : En) (d : Name) : Fn Tryz.prog X 11 [.v (vName d)] (.v (vName (cutName d))) := by
  refine fn_prog tabOk mixed Tryz.f11 Tryz.func11 (by kernel_rfl) (by kernel_rfl) ?_
  conv => whnf
  refine ⟨Nat, fun k => ⟨66, [(0, .v (vName d)), (3, .own 3 42 ((d.take k).map fun r => cRdn (cutRdn r))), (4, .v (.int .i64 (k : Nat)))], [], [(3, some 42)]⟩, fun k => k ≤ d.length ∧ k ≤ 10, fun k => d.length - k, ⟨0, [(3, none)], ⟨by omega, by omega⟩, ⟨rfl, rfl, ⟨.inl rfl, ⟨rfl, rfl, rfl⟩, .inl rfl, trivial⟩, trivial, ⟨trivial, trivial⟩⟩⟩, fun k ⟨hk, hk10⟩ => ?_⟩
  conv => whnf
  have fin : d.length ≤ k ∨ 10 ≤ k → V.sl (List.map cRdn (cutName d)) = V.sl ((d.take k).map fun r => cRdn (cutRdn r)) := fun h => by
    unfold cutName
    rw [List.map_map]
    have : d.take k = d.take 10 := by
      rcases h with h | h
      · rw [List.take_of_length_le h, List.take_of_length_le (by omega)]
      · rw [show k = 10 by omega]
    rw [this]; rfl
  refine ⟨rfl, cmp_split (fun h => ?_) (fun h => ?_)⟩
  · conv => whnf
    refine ⟨rfl, cmp_split (fun h2 => ?_) (fun h2 => ?_)⟩
    · rw [List.length_map] at h
      have hkl : k < d.length := by omega
      conv => whnf
      -- the inner loop
      refine ⟨Nat, fun j => ⟨66, [(0, .v (vName d)), (3, .own 3 42 ((d.take k).map fun r => cRdn (cutRdn r))), (4, .v (.int .i64 (k : Nat))), (5, .ptr 5 0), (6, .v (.int .i64 (j : Nat)))], [(5, [.own 5 39 ((d[k].take j).map fun a => cAva (cutAva a))])], [(3, some 42), (5, some 39)]⟩, fun j => j ≤ d[k].length ∧ j ≤ 5, fun j => d[k].length - j, ⟨0, [(3, some 3), (5, none)], ⟨by omega, by omega⟩, ?_⟩, fun j ⟨hj, hj5⟩ => ?_⟩
      · exact ⟨rfl, rfl, ⟨.inl rfl, ⟨rfl, rfl, rfl⟩, .inl rfl, ⟨rfl, rfl⟩, .inl rfl, trivial⟩, ⟨⟨⟨rfl, by simp, rfl⟩, trivial⟩, trivial⟩, ⟨rfl, trivial, trivial⟩⟩
      · conv => whnf
        have fin2 : d[k].length ≤ j ∨ 5 ≤ j → (d[k].take j).map (fun a => cAva (cutAva a)) = (cutRdn d[k]).map cAva := fun h => by
          unfold cutRdn
          rw [List.map_map]
          have : d[k].take j = d[k].take 5 := by
            rcases h with h | h
            · rw [List.take_of_length_le h, List.take_of_length_le (by omega)]
            · rw [show j = 5 by omega]
          rw [this]; rfl
        have hkd : k ≤ 1000000000000 := by omega
        have out : d[k].length ≤ j ∨ 5 ≤ j → (d.take k).map (fun r => cRdn (cutRdn r)) ++ [[V.sl ((d[k].take j).map fun a => cAva (cutAva a))]] = (d.take (k + 1)).map fun r => cRdn (cutRdn r) := fun h => by
          rw [fin2 h]
          exact map_take_succ (enc := fun r => cRdn (cutRdn r)) hkl
        refine st_idx hkl rfl ?_
        conv => whnf
        refine ⟨rfl, cmp_split (fun h3 => ?_) (fun h3 => ?_)⟩
        · rw [List.length_map] at h3
          conv => whnf
          refine ⟨rfl, cmp_split (fun h4 => ?_) (fun h4 => ?_)⟩
          · have hjl : j < d[k].length := by omega
            conv => whnf
            refine st_idx hkl rfl ?_
            conv => whnf
            refine st_idx hjl rfl ?_
            conv => whnf
            refine ⟨none, by kernel_rfl, ?_⟩
            conv => whnf
            refine st_min 21 ?_
            conv => whnf
            refine st_cut 0 (min d[k][j].1.size 21) rfl rfl (by omega) (by omega) ?_
            conv => whnf
            refine st_min 61 ?_
            conv => whnf
            refine st_cut 0 (min d[k][j].2.size 61) rfl rfl (by omega) (by omega) ?_
            conv => whnf
            refine st_app (by simp; omega) (by simp [V.cells]) (map_take_succ (enc := fun a => cAva (cutAva a)) hjl) ?_
            conv => whnf
            refine ⟨rfl, st_succ (by omega) ?_⟩
            conv => whnf
            refine ⟨j + 1, [(3, some 3), (5, some 59)], ⟨by omega, by omega⟩, by dsimp only; omega, ?_⟩
            exact ⟨rfl, rfl, ⟨.inl rfl, ⟨rfl, rfl, rfl⟩, .inl rfl, ⟨rfl, rfl⟩, .inl rfl, trivial⟩, ⟨⟨⟨rfl, rfl, rfl⟩, trivial⟩, trivial⟩, ⟨rfl, rfl, trivial⟩⟩
          · conv => whnf
            refine st_app (by simp; omega) (by simp [V.cells]) (out (by omega)) ?_
            conv => whnf
            refine ⟨rfl, st_succ hkd ?_⟩
            conv => whnf
            refine ⟨k + 1, [(3, some 64)], ⟨by omega, by omega⟩, by dsimp only; omega, ?_⟩
            exact ⟨rfl, rfl, ⟨.inl rfl, ⟨rfl, rfl, rfl⟩, .inl rfl, trivial⟩, trivial, ⟨rfl, trivial⟩⟩
        · rw [List.length_map] at h3
          conv => whnf
          refine st_app (by simp; omega) (by simp [V.cells]) (out (by omega)) ?_
          conv => whnf
          refine ⟨rfl, st_succ hkd ?_⟩
          conv => whnf
          refine ⟨k + 1, [(3, some 64)], ⟨by omega, by omega⟩, by dsimp only; omega, ?_⟩
          exact ⟨rfl, rfl, ⟨.inl rfl, ⟨rfl, rfl, rfl⟩, .inl rfl, trivial⟩, trivial, ⟨rfl, trivial⟩⟩
    · conv => whnf
      exact ⟨fin (by omega), rfl⟩
  · rw [List.length_map] at h
    conv => whnf
    exact ⟨fin (by omega), rfl⟩
end Go.Proofs.YtjmpkbmgcbalkaaGreatDoor.Dn
/- dn: a name's text. Conditions: at most 1000 parts of at most 100 pairs, types and values of at most 1000 bytes. -/
namespace Go.Proofs.YtjmpkbmgcbalkaaGreatDoor.Dn
open Go.RowKit
set_option linter.unusedVariables false
/-- names that are not too large -/
structure Small (d : Name) : Prop where
  len : d.length ≤ 1000
  row : ∀ r ∈ d, r.length ≤ 100 ∧ ∀ a ∈ r, a.1.size ≤ 1000 ∧ a.2.size ≤ 1000
theorem avaL_len {a : Ava} (h : a.1.size ≤ 1000 ∧ a.2.size ≤ 1000) : (avaL a).length ≤ 4001 := by
  have h1 := Esc.outF_len (Esc.nameR a.2.size) a.2.data.toList 0
  have h2 := Txt.size_list a.1
  have h3 := Txt.size_list a.2
  simp only [avaL, List.length_append, List.length_cons]
  omega
theorem rdnL_len {r : Rdn} (h : r.length ≤ 100 ∧ ∀ a ∈ r, a.1.size ≤ 1000 ∧ a.2.size ≤ 1000) : (rdnL r).length ≤ 400200 := by
  have h1 := joinC_len 43 4001 (r.map avaL) (fun x hx => by obtain ⟨a, ha, rfl⟩ := List.mem_map.1 hx; exact avaL_len (h.2 a ha))
  rw [List.length_map] at h1
  have h2 := h.1
  have : r.length * (4001 + 1) ≤ 100 * (4001 + 1) := Nat.mul_le_mul_right _ h2
  unfold rdnL
  omega
theorem nameL_len {d : Name} (h : Small d) : (nameL d).length ≤ 500000000 := by
  have h1 := joinC_len 44 400200 (d.map rdnL) (fun x hx => by obtain ⟨a, ha, rfl⟩ := List.mem_map.1 hx; exact rdnL_len (h.row a ha))
  rw [List.length_map] at h1
  have h2 := h.len
  have : d.length * (400200 + 1) ≤ 1000 * (400200 + 1) := Nat.mul_le_mul_right _ h2
  unfold nameL
  omega
theorem cat_len {s t : ByteArray} {l : List UInt8} (h : s ++ t = mkB l) (hl : l.length ≤ 4001) : s.size + t.size ≤ 9223372036854775807 := by
  have h2 : (s ++ t).size = l.length := by rw [h]; rfl
  rw [ByteArray.size_append] at h2
  omega
variable (p : Nat → Addr)
theorem joinX_fn {α : Type} (xs : List α) (f : α → List UInt8) (c : UInt8) (hn : xs.length ≤ 1000000) (hl : (joinC c (xs.map f)).length ≤ 1000000000) : Fn Tryz.prog (envX p) 56 [.v (.sl (xs.map fun x => [V.str (mkB (f x))])), .v (.str ⟨#[c]⟩)] (.v (.str (mkB (joinC c (xs.map f))))) := by
  have := join_fn p (xs.map fun x => mkB (f x)) c (by rw [List.length_map]; exact hn) (by rw [map_mkB]; exact hl)
  rw [map_mkB, List.map_map] at this
  exact this
theorem printed_fn (d : Name) (hd : Small d) : Fn Tryz.prog (envX p) 30 [.v (vName d)] (.v (.str (mkB (nameL d)))) := by
  have hl := hd.len
  refine fn_prog tabOk mixed Tryz.f30 Tryz.func30 (by kernel_rfl) (by kernel_rfl) ?_
  conv => whnf
  refine ⟨Nat, fun k => ⟨41, [(3, .own 3 9 ((d.take k).map fun r => [V.str (mkB (rdnL r))])), (9, .v (vName d)), (10, .v (.int .i64 (d.length : Nat))), (11, .v (.int .i64 (k : Nat)))], [], [(3, some 9)]⟩, fun k => k ≤ d.length, fun k => d.length - k, ⟨0, [(3, none)], by omega, ⟨rfl, rfl, ⟨⟨rfl, rfl, rfl⟩, .inl rfl, .inl (by rw [List.length_map]), .inl rfl, trivial⟩, trivial, ⟨trivial, trivial⟩⟩⟩, fun k hk => ?_⟩
  conv => whnf
  refine ⟨rfl, cmp_split (fun h => ?_) (fun h => ?_)⟩
  · have hkl : k < d.length := by omega
    have hrow := hd.row d[k] (List.getElem_mem hkl)
    have hrl := hrow.1
    conv => whnf
    refine st_idx hkl rfl ?_
    conv => whnf
    refine ⟨Nat, fun j => ⟨41, [(3, .own 3 9 ((d.take k).map fun r => [V.str (mkB (rdnL r))])), (6, .own 6 9 ((d[k].take j).map fun a => [V.str (mkB (avaL a))])), (9, .v (vName d)), (10, .v (.int .i64 (d.length : Nat))), (11, .v (.int .i64 (k : Nat))), (16, .v (.sl (d[k].map cAva))), (17, .v (.int .i64 (d[k].length : Nat))), (18, .v (.int .i64 (j : Nat)))], [], [(3, some 9), (6, some 9)]⟩, fun j => j ≤ d[k].length, fun j => d[k].length - j, ⟨0, [(3, some 3), (6, none)], by omega, ?_⟩, fun j hj => ?_⟩
    · exact ⟨rfl, rfl, ⟨⟨rfl, rfl, rfl⟩, ⟨rfl, rfl, rfl⟩, .inl rfl, .inl rfl, .inl rfl, .inl rfl, .inl (by rw [List.length_map]), .inl rfl, trivial⟩, trivial, ⟨rfl, trivial, trivial⟩⟩
    · conv => whnf
      refine ⟨rfl, cmp_split (fun h2 => ?_) (fun h2 => ?_)⟩
      · have hjl : j < d[k].length := by omega
        have hav := hrow.2 d[k][j] (List.getElem_mem hjl)
        conv => whnf
        refine st_idx hjl rfl ?_
        conv => whnf
        refine ⟨none, by kernel_rfl, ?_⟩
        conv => whnf
        refine st_cat (show _ + 1 ≤ _ by omega) rfl ?_
        conv => whnf
        refine st_call (escName_fn p d[k][j].2 (by omega)) ⟨.inl rfl, trivial⟩ rfl rfl ?_
        conv => whnf
        refine st_cat (cat_len (ava_text d[k][j]) (avaL_len hav)) (ava_text d[k][j]) ?_
        conv => whnf
        refine st_app (by simp; omega) (by simp [V.cells]) (map_take_succ (enc := fun a => [V.str (mkB (avaL a))]) hjl) ?_
        conv => whnf
        refine ⟨rfl, st_succ (by omega) ?_⟩
        conv => whnf
        refine ⟨j + 1, [(3, some 3), (6, some 31)], by omega, by dsimp only; omega, ?_⟩
        exact ⟨rfl, rfl, ⟨⟨rfl, rfl, rfl⟩, ⟨rfl, rfl, rfl⟩, .inl rfl, .inl rfl, .inl rfl, .inl rfl, .inl rfl, .inl rfl, trivial⟩, trivial, ⟨rfl, rfl, trivial⟩⟩
      · have hje : j = d[k].length := by omega
        subst hje
        conv => whnf
        have hr := rdnL_len hrow
        refine st_call (joinX_fn p d[k] avaL 43 (by omega) (Nat.le_trans hr (by omega))) ⟨(by rw [List.take_length]; rfl), .inl rfl, trivial⟩ rfl rfl ?_
        conv => whnf
        refine st_app (by simp; omega) (by simp [V.cells]) (map_take_succ (enc := fun r => [V.str (mkB (rdnL r))]) hkl) ?_
        conv => whnf
        refine ⟨rfl, st_succ (by omega) ?_⟩
        conv => whnf
        refine ⟨k + 1, [(3, some 37)], by omega, by dsimp only; omega, ?_⟩
        exact ⟨rfl, rfl, ⟨⟨rfl, rfl, rfl⟩, .inl rfl, .inl rfl, .inl rfl, trivial⟩, trivial, ⟨rfl, trivial⟩⟩
  · have hke : k = d.length := by omega
    subst hke
    conv => whnf
    have hr := nameL_len hd
    refine st_call (joinX_fn p d rdnL 44 (by omega) (Nat.le_trans hr (by omega))) ⟨(by rw [List.take_length]; rfl), .inl rfl, trivial⟩ rfl rfl ?_
    conv => whnf
    exact ⟨.inl rfl, rfl⟩
end Go.Proofs.YtjmpkbmgcbalkaaGreatDoor.Dn
/- dn: the walk over a text's pieces, as an iterator without memory. Conditions: at most 10^8 bytes; the sign is no backslash. -/
namespace Go.Proofs.YtjmpkbmgcbalkaaGreatDoor.Dn
open Go.RowKit
set_option linter.unusedVariables false
theorem pieces_fn (p : Nat → Addr) (s : ByteArray) (c : UInt8) : Fn Tryz.prog (envX p) 59 [.v (.agg [.str s, .int .u8 c.toNat])] (.fn 81 [.ro [.str s, .int .u8 c.toNat]]) := by
  refine ⟨enter_of (by kernel_rfl), fun w L vs hE hL ha => ?_⟩
  obtain ⟨v, rfl, cs, rfl, u1, us, e1, _, h1, u2, us2, rfl, _, h2, h3⟩ := one_arg ha
  rw [show us2 = [] from h3, show u1 = .string s from h1, show u2 = .int .u8 c.toNat from h2] at e1
  have e2 : cs = #[.string s, .int .u8 c.toNat] := Array.toList_inj.1 e1
  rw [e2]
  refine (pieces_maker s c w).mono ?_
  rintro e w' ⟨rfl, rfl⟩
  have hh := World.alloc_heap_new w (.cells #[.string s, .int .u8 c.toNat] 80)
  have c0 := cel hh 0 (v := .string s) rfl
  have c1 := cel hh 1 (v := .int .u8 c.toNat) rfl
  refine ⟨_, fun b o => L b o ∨ (b = w.heap.size ∧ o < 2), rfl, below_new _ _, fun b o u h1 h2 => ⟨.inl h1, cell_below h2 (below_new _ _)⟩, fun {b o} h => h.imp id (fun h => by omega), fun {b o} h => ?_, ⟨_, rfl, ?_⟩⟩
  · rcases h with h | ⟨rfl, h⟩
    · obtain ⟨u, hu⟩ := hL h
      exact ⟨u, cell_below hu (below_new _ _)⟩
    · match o, h with
      | 0, _ => exact ⟨_, c0⟩
      | 1, _ => exact ⟨_, c1⟩
  · exact ⟨_, _, rfl, ⟨_, _, rfl, ⟨_, .inr ⟨rfl, by omega⟩, c0, rfl, rfl⟩, ⟨_, .inr ⟨rfl, by omega⟩, c1, rfl, rfl⟩, trivial⟩, rfl⟩
theorem pieces_it (p : Nat → Addr) (s : ByteArray) (c : UInt8) (hs : s.size ≤ 100000000) (hc : c ≠ 92) : It Tryz.prog (envX p) 81 [.ro [.str s, .int .u8 c.toNat]] ((piecesL c s.data.toList).map fun y => [.str (mkB y)]) := by
  refine ⟨enter_of (by kernel_rfl), fun l0 L cvs w0 J Stop hE hL ha h0 hst han hba hrd => ?_⟩
  obtain ⟨v, rfl, b, o, rfl, ⟨u0, l0', c0, _, r0⟩, ⟨u1, l1', c1, _, r1⟩, _⟩ := one_arg ha
  rw [show u0 = .string s from r0] at c0
  rw [show u1 = .int .u8 c.toNat from r1] at c1
  have hJ := fun i Z W h => (hba i Z W h).2.1
  have key := pieces_iter (l0 := l0) (Cx := b) (Co := o) hs hc (fun pre W => ∃ Z, J pre.length Z W) Stop (fun pre W ⟨Z, h⟩ => ⟨(hJ _ Z W h b o _ l0' c0).2, (hJ _ Z W h b (o + 1) _ l1' c1).2⟩) (fun pre W W' ⟨Z, h⟩ hb => ⟨_, hst _ Z W W' h (Upd.of_below hb)⟩)
    (fun pre y rest W hp hy ⟨Z, h⟩ => by
      have hi : ((piecesL c s.data.toList).map fun y => [V.str (mkB y)])[pre.length]? = some [V.str y] := by
        rw [hp, List.getElem?_map, List.getElem?_append_right (Nat.le_refl _), Nat.sub_self]
        simp [mkB]
      obtain ⟨fn, tm, asg, bo, h1, h2⟩ := hrd pre.length [.str y] Z (fun _ => False) W L [.string y] hi h ⟨_, _, rfl, rfl, rfl, rfl⟩ .inl (fun _ h => h.elim) (fun _ h => h)
      refine ⟨fn, tm, asg, bo, h1, h2.mono fun e W' h => ?_⟩
      rcases h with ⟨rfl, h3, _⟩ | h
      · exact .inl ⟨rfl, _, by rw [List.length_append]; exact h3⟩
      · exact .inr h)
    w0 ⟨_, h0⟩
  refine key.mono fun e W' ⟨hv, h⟩ => ⟨hv, ?_⟩
  rcases h with ⟨Z, h⟩ | h
  · exact .inl ⟨Z, by rw [List.length_map]; exact h⟩
  · exact .inr h
end Go.Proofs.YtjmpkbmgcbalkaaGreatDoor.Dn
/- dn: Print, parsed, Parse, Canon. Conditions: texts of at most 10^6 bytes. -/
namespace Go.Proofs.YtjmpkbmgcbalkaaGreatDoor.Dn
open Go.RowKit
set_option linter.unusedVariables false
theorem right_small {d : Name} (h : rightB d = true) : Small d := by
  unfold rightB at h
  simp only [Bool.and_eq_true, decide_eq_true_eq] at h
  refine ⟨by omega, fun r hr => ?_⟩
  have h2 := List.all_eq_true.1 h.2 r hr
  unfold rdnB at h2
  simp only [Bool.and_eq_true, decide_eq_true_eq] at h2
  refine ⟨by omega, fun a ha => ?_⟩
  have h3 := List.all_eq_true.1 h2.2.2 a ha
  unfold avaB typeB at h3
  simp only [Bool.and_eq_true, decide_eq_true_eq] at h3
  have := Txt.size_list a.1
  omega
theorem piecesF_le (c : UInt8) : ∀ (f : Nat) (l : List UInt8), (∀ y ∈ piecesF c f l, y.length ≤ l.length) ∧ (piecesF c f l).length ≤ f + 1
  | 0, l => ⟨fun y hy => by rw [piecesF] at hy; simp at hy; rw [hy]; exact Nat.le_refl _, by rw [piecesF]; simp⟩
  | f + 1, l => by
    obtain ⟨h1, h2⟩ := piecesF_le c f (l.drop (endL c l + 1))
    rw [piecesF]
    split
    · exact ⟨fun y hy => by simp at hy; rw [hy]; exact Nat.le_refl _, by simp⟩
    · refine ⟨fun y hy => ?_, by rw [List.length_cons]; omega⟩
      rcases List.mem_cons.1 hy with rfl | hy
      · rw [List.length_take]; omega
      · have := h1 y hy
        rw [List.length_drop] at this
        omega
theorem pieces_le (c : UInt8) (l : List UInt8) : (∀ y ∈ piecesL c l, y.length ≤ l.length) ∧ (piecesL c l).length ≤ l.length + 2 := piecesF_le c _ l
variable (p : Nat → Addr)
/-- a name's text, none if it isn't right -/
def printedB (d : Name) : ByteArray := if rightB d = true then mkB (nameL d) else ⟨#[]⟩
def codeN (b : Bool) : Int := if b = true then 0 else 70
theorem print_fn (d : Name) : Fn Tryz.prog (envX p) 13 [.v (vName d)] (.tup [.v (.str (printedB d)), .v (.int .i64 (codeN (rightB d)))]) := by
  have hR := right_fn p d
  unfold printedB codeN
  cases hr : rightB d
  · rw [hr] at hR
    refine fn_prog tabOk mixed Tryz.f13 Tryz.func13 (by kernel_rfl) (by kernel_rfl) ?_
    conv => whnf
    refine st_call hR ⟨.inl rfl, trivial⟩ rfl rfl ?_
    conv => whnf
    refine st_call (told_wrong_fn p ⟨#[]⟩) ⟨.inl rfl, trivial⟩ rfl rfl ?_
    conv => whnf
    exact ⟨⟨.inl rfl, .inl rfl, trivial⟩, rfl⟩
  · rw [hr] at hR
    refine fn_prog tabOk mixed Tryz.f13 Tryz.func13 (by kernel_rfl) (by kernel_rfl) ?_
    conv => whnf
    refine st_call hR ⟨.inl rfl, trivial⟩ rfl rfl ?_
    conv => whnf
    refine st_call (printed_fn p d (right_small hr)) ⟨.inl rfl, trivial⟩ rfl rfl ?_
    conv => whnf
    exact ⟨⟨.inl rfl, .inl rfl, trivial⟩, rfl⟩
/-! ### what a text says, part by part -/
def rdnD (q : List UInt8) : Rdn := (rdnOf q).getD []
theorem allM_some {α β : Type} {f : α → Option β} {dflt : α → β} (hd : ∀ a b, f a = some b → dflt a = b) : ∀ l : List α, (∀ a ∈ l, (f a).isSome = true) → allM f l = some (l.map dflt)
  | [], _ => rfl
  | a :: t, h => by
    obtain ⟨b, hb⟩ := Option.isSome_iff_exists.1 (h a (by simp))
    rw [allM, hb, allM_some hd t (fun x hx => h x (by simp [hx])), List.map_cons, hd a b hb]
    rfl
theorem allM_none {α β : Type} {f : α → Option β} : ∀ {l : List α} {a : α}, a ∈ l → f a = none → allM f l = none
  | b :: t, a, h, hn => by
    rw [allM]
    cases hb : f b with
    | none => rfl
    | some y =>
      rcases List.mem_cons.1 h with rfl | h
      · rw [hn] at hb; cases hb
      · dsimp only
        rw [allM_none h hn]; rfl
/-- the first part that says nothing -/
def badRdn (q : List UInt8) : Option ByteArray := ((piecesL 43 q).find? fun x => (partA (mkB x)).isNone).map mkB
def badOf (s : ByteArray) : ByteArray := if s.data.toList = [] then s else ((piecesL 44 s.data.toList).findSome? badRdn).getD s
def parsedV (s : ByteArray) : T := match parsedL s.data.toList with
  | some d => .tup [.v (vName d), .v .nili]
  | none => .tup [.v (.sl []), .v (dnErr (badOf s))]
def avaD (q : List UInt8) : Ava := (partA (mkB q)).getD (⟨#[]⟩, ⟨#[]⟩)
theorem find_first {α : Type} {f : α → Bool} {l : List α} {i : Nat} (hi : i < l.length) (h : ∀ j (hj : j < i), f (l[j]'(by omega)) = false) (h2 : f l[i] = true) : l.find? f = some l[i] := by
  induction l generalizing i with
  | nil => cases hi
  | cons a t ih =>
    cases i with
    | zero => rw [List.find?_cons, show f a = true from h2]; rfl
    | succ n =>
      rw [List.find?_cons, show f a = false from h 0 (by omega)]
      exact ih (by simpa using hi) (fun j hj => h (j + 1) (by omega)) h2
theorem findSome_first {α β : Type} {f : α → Option β} {l : List α} {i : Nat} {b : β} (hi : i < l.length) (h : ∀ j (hj : j < i), f (l[j]'(by omega)) = none) (h2 : f l[i] = some b) : l.findSome? f = some b := by
  induction l generalizing i with
  | nil => cases hi
  | cons a t ih =>
    cases i with
    | zero => rw [List.findSome?_cons, show f a = some b from h2]
    | succ n =>
      rw [List.findSome?_cons, show f a = none from h 0 (by omega)]
      exact ih (by simpa using hi) (fun j hj => h (j + 1) (by omega)) h2
end Go.Proofs.YtjmpkbmgcbalkaaGreatDoor.Dn
