/- esc: the signs that a value's text has, and whether a byte is one of them. No conditions. -/
import Derived.Test.YtajpgigeploodaaGreatDoorM19
namespace Go.Proofs.YtajpgigeploodaaGreatDoor.Esc
open Go.RowKit Go.Lib
set_option linter.unusedVariables false
def first2 : List UInt8 := [32, 35]
def signs7 : List UInt8 := [34, 43, 44, 59, 60, 62, 92]
theorem one2 (b : UInt8) (W : World) (n : Nat) (hn : n = W.heap.size) : Calls Tryz.prog 48 #[.int .u8 b.toNat, .slice (some ⟨n, 0, none⟩) 2 2] (W.alloc (.cells #[.int .u8 32, .int .u8 35] 5)) fun e w' => e = .returned (.bool (first2.contains b)) ∧ (W.alloc (.cells #[.int .u8 32, .int .u8 35] 5)) = w' :=
  hn ▸ one_calls b _ first2 _ (lit_bytes W (fun _ => True) first2 trivial 2 2 rfl (by decide)) (by decide)
theorem one7 (b : UInt8) (W : World) (n : Nat) (hn : n = W.heap.size) : Calls Tryz.prog 48 #[.int .u8 b.toNat, .slice (some ⟨n, 0, none⟩) 7 7] (W.alloc (.cells #[.int .u8 34, .int .u8 43, .int .u8 44, .int .u8 59, .int .u8 60, .int .u8 62, .int .u8 92] 5)) fun e w' => e = .returned (.bool (signs7.contains b)) ∧ (W.alloc (.cells #[.int .u8 34, .int .u8 43, .int .u8 44, .int .u8 59, .int .u8 60, .int .u8 62, .int .u8 92] 5)) = w' :=
  hn ▸ one_calls b _ signs7 _ (lit_bytes W (fun _ => True) signs7 trivial 7 7 rfl (by decide)) (by decide)
/-- is a byte printed behind a sign, by its digits? -/
def nameR (n : Nat) (k : Nat) (b : UInt8) : Bool × Bool := ((k == 0 && first2.contains b) || (k + 1 == n && b == 32) || signs7.contains b, !plainB b)
end Go.Proofs.YtajpgigeploodaaGreatDoor.Esc
