/- size.first at one rule, size.(text).has. Conditions: the shape of memory that each theorem names. -/
import Derived.Test.YtglmnglaliljdaaDoorGlob
import Derived.Deep.RegionHeld3
import Derived.Deep.QuietTactic
import Derived.BigQuiet
import Derived.Outline
namespace Go.Proofs.YtglmnglaliljdaaDoor.Size
open Go.RowKit
theorem has_yes (s : ByteArray) (a n : Int) (w : World) (h0 : 0 ≤ a) (h1 : a ≤ s.size) (hs : s.size ≤ maxLen) (h2 : n ≤ s.size - a) :
    Calls Tryd.prog 46 #[.agg #[.string s, .int .i64 a], .int .i64 n] w fun e w' => e = .returned (.bool true) ∧ Below w.heap.size w w' := by
  unfold maxLen at hs
  have h3 : decide (n ≤ s.size - a) = true := by simpa using h2
  go_enter Tryd.func46, Tryd.ntmps46
  go_wp2
  go_ret
  exact ⟨rfl, (Below.refl _ _).alloc (Nat.le_refl _) _⟩
theorem has_no (s : ByteArray) (a n : Int) (w : World) (h0 : 0 ≤ a) (h1 : a ≤ s.size) (hs : s.size ≤ maxLen) (h2 : s.size - a < n) :
    Calls Tryd.prog 46 #[.agg #[.string s, .int .i64 a], .int .i64 n] w fun e w' => e = .returned (.bool false) ∧ Below w.heap.size w w' := by
  unfold maxLen at hs
  have h3 : decide (n ≤ s.size - a) = false := by simpa using h2
  go_enter Tryd.func46, Tryd.ntmps46
  go_wp2
  go_ret
  exact ⟨rfl, (Below.refl _ _).alloc (Nat.le_refl _) _⟩
theorem first_no (n : Int) (u : Nat) (v : Value) (b : Nat) (w : World) (h0 : w.cell? ⟨b, 0, none⟩ = some (.bool false)) (h1 : w.cell? ⟨b, 1, none⟩ = some (.iface u v)) :
    Calls Tryd.prog 32 #[.int .i64 n, .slice (some ⟨b, 0, none⟩) 1 1] w fun e w' => e = .returned .nilIface ∧ Below w.heap.size w w' := by
  go_enter Tryd.func32, Tryd.ntmps32
  go_wp2
  refine wp_loop_rounds 2 ?_
  rw [rounds_succ]
  go_wp2
  rw [rounds_succ]
  go_wp2
  go_ret
  exact ⟨rfl, (Below.refl _ _).alloc (Nat.le_refl _) _⟩
theorem first_yes (n : Int) (u : Nat) (v : Value) (b : Nat) (w : World) (h0 : w.cell? ⟨b, 0, none⟩ = some (.bool true)) (h1 : w.cell? ⟨b, 1, none⟩ = some (.iface u v)) :
    Calls Tryd.prog 32 #[.int .i64 n, .slice (some ⟨b, 0, none⟩) 1 1] w fun e w' => e = .returned (.iface 78 (.agg #[.int .i64 n, .iface u v])) ∧ Below w.heap.size w w' := by
  go_enter Tryd.func32, Tryd.ntmps32
  go_wp2
  refine wp_loop_rounds 2 ?_
  rw [rounds_succ]
  go_wp2
  go_ret
  exact ⟨rfl, (Below.refl _ _).alloc (Nat.le_refl _) _⟩
end Go.Proofs.YtglmnglaliljdaaDoor.Size
