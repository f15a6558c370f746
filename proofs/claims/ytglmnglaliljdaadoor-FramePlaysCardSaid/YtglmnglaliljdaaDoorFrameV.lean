/- latinerref14.look: how long the piece is with which some bytes begin. Conditions: none but the text's size. -/
import Derived.Test.YtglmnglaliljdaaDoorFrameU
namespace Go.Proofs.YtglmnglaliljdaaDoor.Frame
open Go.RowKit Size
set_option linter.unusedVariables false
/-- what look answers -/
def lookB (s : ByteArray) : Int × Int :=
  if s.size = 0 then (0, 0) else
  if bt s 0 ≠ 48 then (0, 20) else
  if s.size < 2 then (0, 0) else
  if bt s 1 < 128 then (2 + bt s 1, 0) else
  if bt s 1 = 128 ∨ 132 < bt s 1 then (0, 11) else
  if (s.size : Int) < 2 + (bt s 1 - 128) then (0, 0) else
  if 4000 < lf s 2 (bt s 1 - 128).toNat then (0, 131) else (2 + (bt s 1 - 128) + lf s 2 (bt s 1 - 128).toNat, 0)
theorem look_empty (w : World) : Calls Tryd.prog 23 #[.string ⟨#[]⟩] w fun e w' => e = .returned (.tuple #[.int .i64 0, .int .i64 0]) ∧ w = w' := by
  go_enter Tryd.func23, Tryd.ntmps23
  go_wp2
  go_ret2
  exact ⟨rfl, rfl⟩
theorem not_empty (s : ByteArray) (h : 0 < s.size) : s.toList.isEmpty = false := by
  rw [ByteArray.toList_eq]
  cases hd : s.data.toList with
  | nil => have h1 : s.data.toList.length = s.size := by rw [Array.length_toList]; rfl
           rw [hd] at h1; simp at h1; omega
  | cons a r => rfl
theorem bt_zero (s : ByteArray) (b : Int) (hb : bt s 0 = b) : ∀ h : 0 < s.size, ((s[0]'h).toNat : Int) = b := fun h => by rw [← hb]; exact bt_at s 0 h
theorem bt_one (s : ByteArray) (b : Int) (hb : bt s 1 = b) : ∀ h : 1 < s.size, ((s[1]'h).toNat : Int) = b := fun h => by rw [← hb]; exact bt_at s 1 h
set_option maxRecDepth 100000 in
theorem look_tag (s : ByteArray) (w : World) (b : Int) (h0 : 0 < s.size) (hb : bt s 0 = b) (h1 : b ≠ 48) : Calls Tryd.prog 23 #[.string s] w fun e w' => e = .returned (.tuple #[.int .i64 0, .int .i64 20]) ∧ w = w' := by
  have hne := not_empty s h0
  have h0i : (0 : Int) < (s.size : Int) := by omega
  have hB := bt_zero s b hb
  have q1 : (b != 48) = true := by simpa using h1
  clear hb
  go_enter Tryd.func23, Tryd.ntmps23
  go_wp2
  go_ret2
  exact ⟨rfl, rfl⟩
set_option maxRecDepth 100000 in
theorem look_short (s : ByteArray) (w : World) (h0 : s.size = 1) (hb : bt s 0 = 48) : Calls Tryd.prog 23 #[.string s] w fun e w' => e = .returned (.tuple #[.int .i64 0, .int .i64 0]) ∧ w = w' := by
  have hne := not_empty s (by omega)
  have h0i : (0 : Int) < (s.size : Int) := by omega
  have hB := bt_zero s 48 hb
  clear hb
  go_enter Tryd.func23, Tryd.ntmps23
  go_wp2
  go_ret2
  exact ⟨rfl, rfl⟩
set_option maxRecDepth 100000 in
theorem look_small (s : ByteArray) (w : World) (b : Int) (h0 : 2 ≤ s.size) (hb0 : bt s 0 = 48) (hb : bt s 1 = b) (h1 : b < 128) (hr : 0 ≤ b) : Calls Tryd.prog 23 #[.string s] w fun e w' => e = .returned (.tuple #[.int .i64 (2 + b), .int .i64 0]) ∧ w = w' := by
  have hne := not_empty s (by omega)
  have h0i : (0 : Int) < (s.size : Int) := by omega
  have h2i : (2 : Int) ≤ (s.size : Int) := by omega
  have h1i : (1 : Int) < (s.size : Int) := by omega
  have hB0 := bt_zero s 48 hb0
  have hB := bt_one s b hb
  have q1 : decide (b < 128) = true := by simpa using h1
  clear hb0 hb
  go_enter Tryd.func23, Tryd.ntmps23
  go_wp2
  go_ret2
  exact ⟨rfl, rfl⟩
set_option maxRecDepth 100000 in
theorem look_form (s : ByteArray) (w : World) (b : Int) (h0 : 2 ≤ s.size) (hb0 : bt s 0 = 48) (hb : bt s 1 = b) (h1 : b = 128 ∨ 132 < b) (hr : b ≤ 255) : Calls Tryd.prog 23 #[.string s] w fun e w' => e = .returned (.tuple #[.int .i64 0, .int .i64 11]) ∧ w = w' := by
  have hne := not_empty s (by omega)
  have h0i : (0 : Int) < (s.size : Int) := by omega
  have h2i : (2 : Int) ≤ (s.size : Int) := by omega
  have h1i : (1 : Int) < (s.size : Int) := by omega
  have hB0 := bt_zero s 48 hb0
  have hB := bt_one s b hb
  have q1 : decide (b < 128) = false := by simp; omega
  have q2 : 128 ≤ b := by omega
  clear hb0 hb
  rcases h1 with h1 | h1
  · have q3 : (b == 128) = true := by simpa using h1
    clear h1
    go_enter Tryd.func23, Tryd.ntmps23
    go_wp2
    go_ret2
    exact ⟨rfl, rfl⟩
  · have q3 : (b == 128) = false := by simp; omega
    have q4 : decide (132 < b) = true := by simpa using h1
    go_enter Tryd.func23, Tryd.ntmps23
    go_wp2
    go_ret2
    exact ⟨rfl, rfl⟩
set_option maxRecDepth 100000 in
theorem look_cut (s : ByteArray) (w : World) (b : Int) (h0 : 2 ≤ s.size) (hb0 : bt s 0 = 48) (hb : bt s 1 = b) (h1 : 128 < b) (h2 : b ≤ 132) (h3 : (s.size : Int) < 2 + (b - 128)) : Calls Tryd.prog 23 #[.string s] w fun e w' => e = .returned (.tuple #[.int .i64 0, .int .i64 0]) ∧ w = w' := by
  have hne := not_empty s (by omega)
  have h0i : (0 : Int) < (s.size : Int) := by omega
  have h2i : (2 : Int) ≤ (s.size : Int) := by omega
  have h1i : (1 : Int) < (s.size : Int) := by omega
  have hB0 := bt_zero s 48 hb0
  have hB := bt_one s b hb
  have q1 : decide (b < 128) = false := by simp; omega
  have q3 : (b == 128) = false := by simp; omega
  have q4 : decide (132 < b) = false := by simp; omega
  clear hb0 hb
  go_enter Tryd.func23, Tryd.ntmps23
  go_wp2
  go_ret2
  exact ⟨rfl, rfl⟩
set_option maxRecDepth 100000 in
set_option maxHeartbeats 1000000 in
theorem look_long (s : ByteArray) (w : World) (b : Int) (h0 : 2 ≤ s.size) (hb0 : bt s 0 = 48) (hb : bt s 1 = b) (h1 : 128 < b) (h2 : b ≤ 132) (h3 : 2 + (b - 128) ≤ (s.size : Int)) (r1 r2 : Int) (hr : (r1, r2) = if 4000 < lf s 2 (b - 128).toNat then ((0 : Int), (131 : Int)) else (2 + (b - 128) + lf s 2 (b - 128).toNat, 0)) : Calls Tryd.prog 23 #[.string s] w fun e w' =>
    e = .returned (.tuple #[.int .i64 r1, .int .i64 r2]) ∧ w = w' := by
  have hne := not_empty s (by omega)
  have h0i : (0 : Int) < (s.size : Int) := by omega
  have h2i : (2 : Int) ≤ (s.size : Int) := by omega
  have h1i : (1 : Int) < (s.size : Int) := by omega
  have hB0 := bt_zero s 48 hb0
  have hB := bt_one s b hb
  have q1 : decide (b < 128) = false := by simp; omega
  have q3 : (b == 128) = false := by simp; omega
  have q4 : decide (132 < b) = false := by simp; omega
  obtain ⟨k, hk⟩ : ∃ k : Nat, b - 128 = k := ⟨(b - 128).toNat, by omega⟩
  have hk4 : k ≤ 4 := by omega
  have hk1 : 1 ≤ k := by omega
  have hks : 2 + k ≤ s.size := by omega
  rw [hk, Int.toNat_natCast] at hr
  have HR := Aside.mk hr
  clear hb0 hb hr
  go_enter Tryd.func23, Tryd.ntmps23
  go_wp2
  go_loopg [6, 7] k (fun gk v6 v7 wr => ∃ (i : Nat) (n : Int), v6 = .int .i64 n ∧ v7 = .int .i64 i ∧ Aside (i + gk = k ∧ n = lf s 2 i ∧ w = wr))
  case atStart => exact ⟨0, 0, rfl, rfl, ⟨by omega, rfl, rfl⟩⟩
  case round =>
    obtain ⟨i, n, rfl, rfl, HI⟩ := hrel
    obtain ⟨i1, i2, rfl⟩ := HI.out
    clear HI
    have I2 := Aside.mk i2
    have hl := lf_lt s 2 i
    rw [← i2] at hl
    by_cases hik : i < k
    · obtain ⟨m, rfl⟩ : ∃ m, gk = m + 1 := ⟨gk - 1, by omega⟩
      have hpw : (256 : Int) ^ i ≤ 256 ^ 3 := by
        rcases (show i = 0 ∨ i = 1 ∨ i = 2 ∨ i = 3 by omega) with rfl | rfl | rfl | rfl <;> decide
      have hn0 : 0 ≤ n := hl.1
      have hn1 : n ≤ 16777216 := by have := hl.2; omega
      have hiki : (i : Int) < (k : Int) := by omega
      have his : 2 + (i : Int) < (s.size : Int) := by omega
      have hBi := bt_at s (2 + (i : Int))
      have hr := bt_range s (2 + (i : Int))
      obtain ⟨c, hc⟩ : ∃ c, bt s (2 + (i : Int)) = c := ⟨_, rfl⟩
      rw [hc] at hBi hr
      have HC := Aside.mk hc
      have hc0 := hr.1
      have hc1 := hr.2
      clear i2 hl hpw hc hr
      go_wp2
      go_roundg m
      case measure => omega
      case rel =>
        refine ⟨i + 1, 256 * n + c, rfl, by go_num, ⟨by omega, ?_, rfl⟩⟩
        show _ = lf s 2 i * 256 + bt s (2 + (i : Int))
        rw [HC.out, ← I2.out]
        omega
    · obtain rfl : i = k := by omega
      have hpw : (256 : Int) ^ i ≤ 256 ^ 4 := by
        rcases (show i = 1 ∨ i = 2 ∨ i = 3 ∨ i = 4 by omega) with rfl | rfl | rfl | rfl <;> decide
      have hn0 : 0 ≤ n := hl.1
      have hn1 : n ≤ 4294967296 := by have := hl.2; omega
      clear i2 hl hpw i1 hik
      by_cases h4 : 4000 < n
      · have hr := HR.out
        rw [← I2.out, if_pos h4] at hr
        simp only [Prod.mk.injEq] at hr
        obtain ⟨rfl, rfl⟩ := hr
        clear HR
        have q5 : decide (4000 < n) = true := by simpa using h4
        go_wp2
        go_ret2
        exact ⟨rfl, rfl⟩
      · have hr := HR.out
        rw [← I2.out, if_neg h4] at hr
        simp only [Prod.mk.injEq] at hr
        obtain ⟨rfl, rfl⟩ := hr
        clear HR
        have h4i : n ≤ 4000 := by omega
        clear h4
        go_wp2
        go_ret2
        exact ⟨rfl, rfl⟩
theorem look (s : ByteArray) (w : World) : Calls Tryd.prog 23 #[.string s] w fun e w' => e = .returned (.tuple #[.int .i64 (lookB s).1, .int .i64 (lookB s).2]) ∧ w = w' := by
  unfold lookB
  have r0 := bt_range s 0
  have r1 := bt_range s 1
  by_cases h0 : s.size = 0
  · rw [if_pos h0]
    have e : s = ⟨#[]⟩ := by
      apply ByteArray.ext
      apply Array.ext'
      have h1 : s.data.toList.length = s.size := by rw [Array.length_toList]; rfl
      rw [h0] at h1
      simpa using List.eq_nil_of_length_eq_zero h1
    rw [e]
    exact look_empty w
  rw [if_neg h0]
  by_cases h1 : bt s 0 ≠ 48
  · rw [if_pos h1]
    exact look_tag s w _ (by omega) rfl h1
  rw [if_neg h1]
  have h1 : bt s 0 = 48 := by omega
  by_cases h2 : s.size < 2
  · rw [if_pos h2]
    exact look_short s w (by omega) h1
  rw [if_neg h2]
  by_cases h3 : bt s 1 < 128
  · rw [if_pos h3]
    exact look_small s w _ (by omega) h1 rfl h3 r1.1
  rw [if_neg h3]
  by_cases h4 : bt s 1 = 128 ∨ 132 < bt s 1
  · rw [if_pos h4]
    exact look_form s w _ (by omega) h1 rfl h4 r1.2
  rw [if_neg h4]
  by_cases h5 : (s.size : Int) < 2 + (bt s 1 - 128)
  · rw [if_pos h5]
    exact look_cut s w _ (by omega) h1 rfl (by omega) (by omega) h5
  rw [if_neg h5]
  exact look_long s w _ (by omega) h1 rfl (by omega) (by omega) (by omega) _ _ rfl
end Go.Proofs.YtglmnglaliljdaaDoor.Frame
