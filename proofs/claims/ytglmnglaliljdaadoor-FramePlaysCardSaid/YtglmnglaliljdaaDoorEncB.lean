/- size.parts: a number's bytes, the least first. Conditions: the shape of memory that each theorem names. -/
import Derived.Test.YtglmnglaliljdaaDoorEncA
import Derived.Test.YtglmnglaliljdaaDoorUpd
import Derived.Test.YtglmnglaliljdaaDoorRng
import Derived.Deep.LoopGhost
namespace Go.Proofs.YtglmnglaliljdaaDoor.Size
open Go.RowKit
set_option linter.unusedVariables false
/-- a number's bytes, the least first -/
def partsOf : Nat → Nat → List UInt8
  | 0, _ => []
  | k + 1, n => if n = 0 then [] else UInt8.ofNat (n % 256) :: partsOf k (n / 256)
theorem parts_maker (n : Int) (w : World) :
    Calls Tryd.prog 34 #[.int .i64 n] w fun e w' => e = .returned (.func (.func 42) #[] #[.pointer (some ⟨w.heap.size, 0, none⟩)]) ∧ w.alloc (.cells #[.int .i64 n] 3) = w' := by
  go_enter Tryd.func34, Tryd.ntmps34
  go_wp2
  go_ret
  exact ⟨rfl, rfl⟩
set_option maxRecDepth 100000 in
set_option maxHeartbeats 2000000 in
theorem parts_iter {l0 Bx : Nat} {S : Nat → Prop} (hSx : ¬ S Bx) (J : List UInt8 → World → Prop)
    (hJ : ∀ pre W W', J pre W → W.grownBy W' (some Bx) → J pre W')
    (hY : ∀ pre x W, pre.length < 4 → J pre W → ∃ fn tmps assign body, (Instr.yield l0 #[.int .u8 (UInt8.toNat x)]).run Tryd.prog W = .ok (.round l0 fn tmps assign body) W ∧ RoundIn Fence.wide 0 Tryd.prog l0 fn tmps assign body W (fun e W' => e = .returned (.bool true) ∧ J (pre ++ [x]) W' ∧ Upd S W W'))
    (n : Nat) (hn : n < 4294967296) (W : World) (h0 : J [] W) (hB : W.heap[Bx]? = some (.cells #[.int .i64 n] 3 (0, 0))) :
    Calls Tryd.prog 42 #[.func (.yield l0) #[] #[], .pointer (some ⟨Bx, 0, none⟩)] W fun e W' => (∃ v, e = .returned v) ∧ J (partsOf 4 n) W' ∧ Upd (fun k => S k ∨ k = Bx) W W' := by
  go_enter Tryd.func42, Tryd.ntmps42
  go_wp2
  go_step3
  go_wp2
  go_step3
  go_wp2
  go_loopg [] 5 (fun gk wr => Aside (∃ pre m, partsOf 4 n = pre ++ partsOf (gk - 1) m ∧ pre.length + gk = 5 ∧ m < 256 ^ (gk - 1) ∧ J pre wr ∧ wr.heap[Bx]? = some (.cells #[.int .i64 (m : Nat)] 3 (0, 0)) ∧ Upd (fun k => S k ∨ k = Bx) W wr))
  case atStart => exact ⟨⟨[], n, rfl, rfl, hn, h0, hB, Upd.refl _ _⟩⟩
  case round =>
    obtain ⟨pre, m, e1, e2, e3, hJ1, hB1, hU1⟩ := hrel.out
    have cx : wr.cell? ⟨Bx, 0, none⟩ = some (.int .i64 (m : Int)) := cel hB1 0 rfl
    have fx := frz hB1 0
    have HJ1 := Aside.mk hJ1
    have HB1 := Aside.mk hB1
    have HU := Aside.mk hU1
    have HE := Aside.mk (And.intro e1 (And.intro e2 e3))
    clear hrel hJ1 hB1 hU1 e1 e2 e3 hB h0
    by_cases hm : m = 0
    · subst hm
      have q : decide ((0 : Int) < ((0 : Nat) : Int)) = false := by decide
      go_wp2
      rw [Exit.noGoto_normal]
      go_end0
      refine ⟨⟨_, rfl⟩, ?_, HU.out⟩
      have h1 : partsOf (gk - 1) 0 = [] := by cases gk - 1 <;> rfl
      rw [HE.out.1, h1, List.append_nil]
      exact HJ1.out
    · have hg2 : 2 ≤ gk := by
        rcases Nat.lt_or_ge gk 2 with h | h
        · have h3 := HE.out.2.2
          rw [show gk - 1 = 0 by omega] at h3
          omega
        · exact h
      obtain ⟨k, rfl⟩ : ∃ k, gk = k + 2 := ⟨gk - 2, by omega⟩
      have hk3 : k ≤ 3 := by have := HE.out.2.1; omega
      have hm32 : m < 4294967296 := by
        have h3 := HE.out.2.2
        have h4 : 256 ^ (k + 2 - 1) ≤ 256 ^ 4 := Nat.pow_le_pow_right (by omega) (by omega)
        omega
      have q : decide ((0 : Int) < (m : Int)) = true := by rw [decide_eq_true_eq]; omega
      have hpos : (0 : Int) < (m : Int) := by omega
      have hx : ((UInt8.ofNat (m % 256)).toNat : Int) = (m : Int) % 256 := by
        rw [UInt8.toNat_ofNat']
        omega
      obtain ⟨fn, tm, asg, bo, hy, hR⟩ := hY pre (UInt8.ofNat (m % 256)) wr (by have := HE.out.2.1; omega) HJ1.out
      rw [hx] at hy
      have HRR := Aside.mk hR
      clear hR hx
      refine (wpIn_wide (n := 1)).1 ?_
      gi_wp2_with fail
      refine HRR.out.mono ?_
      rintro e w1 ⟨rfl, hJ3, hU3⟩
      have hb3 := hU3.blk HB1.out hSx
      have cx3 : w1.cell? ⟨Bx, 0, none⟩ = some (.int .i64 (m : Int)) := cel hb3 0 rfl
      have fx3 := frz hb3 0
      have HJ3 := Aside.mk hJ3
      have HU3 := Aside.mk hU3
      have HB3 := Aside.mk hb3
      clear hJ3 hU3 hy hb3 cx fx
      gi_wp2
      go_roundg (k + 1)
      case measure => omega
      case rel =>
        refine ⟨⟨pre ++ [UInt8.ofNat (m % 256)], m / 256, ?_, ?_, ?_, ?_, ?_, ?_⟩⟩
        · rw [HE.out.1]
          show pre ++ partsOf (k + 1) m = _
          rw [partsOf, if_neg hm, List.append_assoc]
          rfl
        · have := HE.out.2.1; rw [List.length_append, List.length_singleton]; omega
        · have h3 := HE.out.2.2
          show m / 256 < 256 ^ k
          rw [show k + 2 - 1 = k + 1 by omega, Nat.pow_succ] at h3
          omega
        · exact hJ _ _ _ HJ3.out (set_grown _ _ _ _)
        · rw [show ((m / 256 : Nat) : Int) = (m : Int) / 256 by omega]
          exact set_blk HB3.out 0 _
        · exact HU.out.trans ((HU3.out.mono (fun k h => .inl h)).trans (Upd.of_grown (set_grown _ _ _ _) (.inr rfl)))
end Go.Proofs.YtglmnglaliljdaaDoor.Size
