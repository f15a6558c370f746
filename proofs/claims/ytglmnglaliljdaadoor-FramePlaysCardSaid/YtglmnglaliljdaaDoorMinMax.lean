/- The built-in max and min of two ints, as laws for the walk, their result named. No conditions. -/
import Derived.Test.YtglmnglaliljdaaDoorGlob
import Derived.BigFrame
import Derived.Laws.Slices
namespace Go.Proofs.YtglmnglaliljdaaDoor
open Go.RowKit
set_option linter.unusedVariables false
theorem wpList_max2 {P : Program} {ops : Array Oper} {rest : List Oper} {a : Act} {w : World} {Q : Exit → Act → World → Prop} {d : Option Tmp} {s x : Operand} {ats : Array TypeId} {ty : TypeId} {ps : String} {af : Array Edge} {m n r : Int}
    (hs : a.eval s = .int .i64 m) (hx : a.eval x = .int .i64 n) (hr : r = max m n) (h : wpList P ops Q rest (a.put d (.int .i64 r)) w) :
    wpList P ops Q ({ dst := d, op := .call { callee := .builtin .max, args := #[s, x], argTypes := ats }, type := ty, pos := ps, after := af, guard := none } :: rest) a w := by
  refine wpList_plain rfl fun K hK => ?_
  have e : (if n > m then n else m) = r := by rw [hr]; split <;> omega
  unfold Oper.wp
  simp [execOp, resolve, invoke, builtin, hs, hx, Builtin.max_, Builtin.max2]
  simp only [gt_iff_lt] at e
  rw [e]
  exact hK _ _ h
theorem wpList_min2 {P : Program} {ops : Array Oper} {rest : List Oper} {a : Act} {w : World} {Q : Exit → Act → World → Prop} {d : Option Tmp} {s x : Operand} {ats : Array TypeId} {ty : TypeId} {ps : String} {af : Array Edge} {m n r : Int}
    (hs : a.eval s = .int .i64 m) (hx : a.eval x = .int .i64 n) (hr : r = min m n) (h : wpList P ops Q rest (a.put d (.int .i64 r)) w) :
    wpList P ops Q ({ dst := d, op := .call { callee := .builtin .min, args := #[s, x], argTypes := ats }, type := ty, pos := ps, after := af, guard := none } :: rest) a w := by
  refine wpList_plain rfl fun K hK => ?_
  have e : (if n < m then n else m) = r := by rw [hr]; split <;> omega
  unfold Oper.wp
  simp [execOp, resolve, invoke, builtin, hs, hx, Builtin.min_, Builtin.min2]
  rw [e]
  exact hK _ _ h
/-- a text's piece, its ends named -/
theorem wpList_piece {P : Program} {ops : Array Oper} {rest : List Oper} {a : Act} {w : World} {Q : Exit → Act → World → Prop} {d : Option Tmp} {s lo hi : Operand} {t ty : TypeId} {ps : String} {af : Array Edge} {x : ByteArray} {i j : Nat} {m n : Int} (hu : P.underlying t = some .string)
    (hs : a.eval s = .string x) (hl : a.eval lo = .int .i64 m) (hh : a.eval hi = .int .i64 n) (hm : m = i) (hn : n = j) (hij : i ≤ j) (hj : j ≤ x.size) (h : wpList P ops Q rest (a.put d (.string (x.extract i j))) w) :
    wpList P ops Q ({ dst := d, op := .slice t s (some lo) (some hi) none, type := ty, pos := ps, after := af, guard := none } :: rest) a w := by
  refine wpList_plain rfl fun K hK => ?_
  subst hm hn
  have e := run_slice_string (P := P) w t x .i64 .i64 (i : Int) (j : Int) hu (by omega) (by omega) (by omega)
  rw [Int.toNat_natCast, Int.toNat_natCast] at e
  unfold Oper.wp
  simp [execOp, hs, hl, hh, run_sliceAt_string w t _ _ _ _ hu, e, Result.andThen]
  exact hK _ _ h
theorem wpList_tail {P : Program} {ops : Array Oper} {rest : List Oper} {a : Act} {w : World} {Q : Exit → Act → World → Prop} {d : Option Tmp} {s lo : Operand} {t ty : TypeId} {ps : String} {af : Array Edge} {x : ByteArray} {i : Nat} {m : Int} (hu : P.underlying t = some .string)
    (hs : a.eval s = .string x) (hl : a.eval lo = .int .i64 m) (hm : m = i) (hi : i ≤ x.size) (h : wpList P ops Q rest (a.put d (.string (x.extract i x.size))) w) :
    wpList P ops Q ({ dst := d, op := .slice t s (some lo) none none, type := ty, pos := ps, after := af, guard := none } :: rest) a w := by
  refine wpList_plain rfl fun K hK => ?_
  subst hm
  have e := run_slice_string_l (P := P) w t x hu .i64 (i : Int) (by omega) (by omega)
  rw [Int.toNat_natCast] at e
  unfold Oper.wp
  simp [execOp, hs, hl, run_sliceAt_string w t _ _ _ _ hu, e, Result.andThen]
  exact hK _ _ h
end Go.Proofs.YtglmnglaliljdaaDoor
