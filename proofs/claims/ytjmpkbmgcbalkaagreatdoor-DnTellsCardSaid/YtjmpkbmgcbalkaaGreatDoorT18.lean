/- esc.Name: a value as it is printed in a name. Conditions: at most 10^6 bytes. -/
import Derived.Test.YtjmpkbmgcbalkaaGreatDoorT17
namespace Go.Proofs.YtjmpkbmgcbalkaaGreatDoor.Esc
open Go.RowKit Go.Lib
set_option linter.unusedVariables false
def first2 : List UInt8 := [32, 35]
def signs7 : List UInt8 := [34, 43, 44, 59, 60, 62, 92]
theorem one2 (b : UInt8) (W : World) (n : Nat) (hn : n = W.heap.size) : Calls Tryz.prog 52 #[.int .u8 b.toNat, .slice (some ⟨n, 0, none⟩) 2 2] (W.alloc (.cells #[.int .u8 32, .int .u8 35] 5)) fun e w' => e = .returned (.bool (first2.contains b)) ∧ (W.alloc (.cells #[.int .u8 32, .int .u8 35] 5)) = w' :=
  hn ▸ one_calls b _ first2 _ (lit_bytes W (fun _ => True) first2 trivial 2 2 rfl (by decide)) (by decide)
theorem one7 (b : UInt8) (W : World) (n : Nat) (hn : n = W.heap.size) : Calls Tryz.prog 52 #[.int .u8 b.toNat, .slice (some ⟨n, 0, none⟩) 7 7] (W.alloc (.cells #[.int .u8 34, .int .u8 43, .int .u8 44, .int .u8 59, .int .u8 60, .int .u8 62, .int .u8 92] 5)) fun e w' => e = .returned (.bool (signs7.contains b)) ∧ (W.alloc (.cells #[.int .u8 34, .int .u8 43, .int .u8 44, .int .u8 59, .int .u8 60, .int .u8 62, .int .u8 92] 5)) = w' :=
  hn ▸ one_calls b _ signs7 _ (lit_bytes W (fun _ => True) signs7 trivial 7 7 rfl (by decide)) (by decide)
/-- is a byte printed behind a sign, by its digits? -/
def nameR (n : Nat) (k : Nat) (b : UInt8) : Bool × Bool := ((k == 0 && first2.contains b) || (k + 1 == n && b == 32) || signs7.contains b, !plainB b)
set_option maxRecDepth 100000 in
set_option maxHeartbeats 4000000 in
theorem rule_calls (B : Nat) (s : ByteArray) (hs : s.size ≤ 1000000) (k : Nat) (b : UInt8) (hk : k < s.size) (W : World) (hc : W.cell? ⟨B, 0, none⟩ = some (.string s)) :
    Calls Tryz.prog 51 #[.int .i64 k, .int .u8 b.toNat, .pointer (some ⟨B, 0, none⟩)] W fun e W' => e = .returned (.tuple #[.bool (nameR s.size k b).1, .bool (nameR s.size k b).2]) ∧ Below W.heap.size W W' := by
  have hlt := World.block_lt_of_cell? W _ hc
  dsimp only at hlt
  have HN := Aside.mk (show (nameR s.size k b).2 = !plainB b from rfl)
  have key : ∃ q1 q2 q3 q4 : Bool, ((k : Int) == 0) = q1 ∧ first2.contains b = q2 ∧ ((k : Int) == (s.size : Int) - 1) = q3 ∧ ((b.toNat : Int) == 32) = q4 ∧ (nameR s.size k b).1 = ((q1 && q2) || (q3 && q4) || signs7.contains b) := by
    refine ⟨_, _, _, _, rfl, rfl, rfl, rfl, ?_⟩
    have e1 : ((k : Int) == 0) = (k == 0) := by rw [Bool.eq_iff_iff]; simp
    have e3 : ((k : Int) == (s.size : Int) - 1) = (k + 1 == s.size) := by rw [Bool.eq_iff_iff]; simp; omega
    have e4 : ((b.toNat : Int) == 32) = (b == 32) := by rw [Bool.eq_iff_iff]; simp [← UInt8.toNat_inj]; omega
    rw [e1, e3, e4]; rfl
  obtain ⟨q1, q2, q3, q4, h1, h2, h3, h4, h5⟩ := key
  have H5 := Aside.mk h5
  clear h5
  have hcs : ∀ o, (W.alloc o).cell? ⟨B, 0, none⟩ = some (.string s) := fun o => cell_below hc (below_new _ _)
  cases q1 <;> cases q3 <;> cases q4
  all_goals
    go_enter Tryz.func51, Tryz.ntmps51
    go_wp2_with fail
  all_goals (try (
    (with_reducible refine (one2 b _ _ ?_).mono ?_)
    · simp
    rintro e w1 ⟨rfl, rfl⟩
    rw [h2]
    cases q2 <;> go_wp2_with fail))
  all_goals (try (
    (with_reducible refine (one7 b _ _ ?_).mono ?_)
    · simp
    rintro e w1 ⟨rfl, rfl⟩
    go_wp2_with fail))
  all_goals
    refine (plain_calls b _).mono ?_
    rintro e w1 ⟨rfl, rfl⟩
    go_wp2
    go_ret2
  all_goals
    refine ⟨by rw [H5.out, HN.out]; simp, ?_⟩
    first
      | exact Below.refl _ _
      | exact below_new _ _
      | exact below_then (below_new _ _) (below_new _ _)
theorem name_calls (s : ByteArray) (hs : s.size ≤ 1000000) (w : World) : Calls Tryz.prog 27 #[.string s] w fun e w' => e = .returned (.string ⟨(outF (nameR s.size) 0 s.data.toList).toArray⟩) ∧ Below w.heap.size w w' := by
  have HB0 := Aside.mk (below_new w (.cells #[.string s] 9))
  have hc := cell_new w #[.string s] 9 (0, 0) 0 (v := .string s) rfl
  have HP := Aside.mk (printed_calls (nameR s.size) 51 #[.pointer (some ⟨w.heap.size, 0, none⟩)] (enters_of Tryz.func51 (by kernel_rfl) rfl) s hs (w.alloc (.cells #[.string s] 9))
    (fun W k b hb hk => rule_calls w.heap.size s hs k b hk W (cell_below hc hb)))
  clear hc
  go_enter Tryz.func27, Tryz.ntmps27
  go_wp2_with fail
  refine HP.out.mono ?_
  rintro e w1 ⟨rfl, hb⟩
  have HB1 := Aside.mk (below_then HB0.out hb)
  clear hb
  go_wp2
  go_ret
  exact ⟨rfl, HB1.out⟩
end Go.Proofs.YtjmpkbmgcbalkaaGreatDoor.Esc
