/- size.Decode: the length of some bytes, from a place on. Conditions: the place lies in the text, the package's variables hold their sentinels. -/
import Derived.Test.YtglmnglaliljdaaDoorSizeD
import Derived.Test.YtglmnglaliljdaaDoorToldSize
namespace Go.Proofs.YtglmnglaliljdaaDoor.Size
open Go.RowKit
set_option linter.unusedVariables false
/-- what size.Decode tells: the length, the place behind, the error's number -/
def dec (s : ByteArray) (a : Int) : Int × Int × Int :=
  if s.size ≤ a then (0, 0, 10) else
  if bt s a < 128 then (bt s a, a + 1, 0) else
  if bt s a = 128 ∨ 132 < bt s a then (0, 0, 11) else
  if s.size < a + 1 + (bt s a - 128) then (0, 0, 10) else
  if 16777215 < lf s (a + 1) (bt s a - 128).toNat then (0, 0, 12) else
  (lf s (a + 1) (bt s a - 128).toNat, a + 1 + (bt s a - 128), 0)

set_option maxHeartbeats 1000000 in
theorem fail_errShort (s : ByteArray) (a n : Int) (w : World) (p : Nat → Addr) (hG : Globs w p)
    (hr : Calls Tryd.prog 45 #[.pointer (some ⟨w.heap.size, 0, none⟩)] (w.alloc (.cells #[.string s, .int .i64 a, .int .i64 0] 118)) fun e w' => e = .returned (.iface 78 (.agg #[.int .i64 n, .iface 120 (.pointer (some (p 5)))])) ∧ (w.alloc (.cells #[.string s, .int .i64 a, .int .i64 0] 118)).grownBy w' (some w.heap.size)) :
    Calls Tryd.prog 41 #[.string s, .int .i64 a] w fun e w' => e = .returned (.tuple #[.int .i64 0, .int .i64 0, .int .i64 10]) ∧ Below w.heap.size w w' := by
  have h1 : Below w.heap.size w (w.alloc (.cells #[.string s, .int .i64 a, .int .i64 0] 118)) := below_new _ _
  have hF := hG.free (Nat.le_refl w.heap.size)
  go_enter Tryd.func41, Tryd.ntmps41
  go_wp2_with fail
  refine hr.mono ?_
  rintro e w1 ⟨rfl, hg⟩
  have H1 := Aside.mk (below_grown h1 hg (Nat.le_refl _))
  have HG1 := Aside.mk (hG.below H1.out)
  clear hr hG h1 hF hg
  go_wp2_with fail
  refine (ToldSize.told_errShort n _ p HG1.out).mono ?_
  rintro e w2 ⟨rfl, hb⟩
  have H2 := Aside.mk (below_then H1.out hb)
  clear hb
  go_wp2
  go_ret3
  exact ⟨rfl, H2.out⟩

set_option maxHeartbeats 1000000 in
theorem fail_errForm (s : ByteArray) (a n : Int) (w : World) (p : Nat → Addr) (hG : Globs w p)
    (hr : Calls Tryd.prog 45 #[.pointer (some ⟨w.heap.size, 0, none⟩)] (w.alloc (.cells #[.string s, .int .i64 a, .int .i64 0] 118)) fun e w' => e = .returned (.iface 78 (.agg #[.int .i64 n, .iface 120 (.pointer (some (p 6)))])) ∧ (w.alloc (.cells #[.string s, .int .i64 a, .int .i64 0] 118)).grownBy w' (some w.heap.size)) :
    Calls Tryd.prog 41 #[.string s, .int .i64 a] w fun e w' => e = .returned (.tuple #[.int .i64 0, .int .i64 0, .int .i64 11]) ∧ Below w.heap.size w w' := by
  have h1 : Below w.heap.size w (w.alloc (.cells #[.string s, .int .i64 a, .int .i64 0] 118)) := below_new _ _
  have hF := hG.free (Nat.le_refl w.heap.size)
  go_enter Tryd.func41, Tryd.ntmps41
  go_wp2_with fail
  refine hr.mono ?_
  rintro e w1 ⟨rfl, hg⟩
  have H1 := Aside.mk (below_grown h1 hg (Nat.le_refl _))
  have HG1 := Aside.mk (hG.below H1.out)
  clear hr hG h1 hF hg
  go_wp2_with fail
  refine (ToldSize.told_errForm n _ p HG1.out).mono ?_
  rintro e w2 ⟨rfl, hb⟩
  have H2 := Aside.mk (below_then H1.out hb)
  clear hb
  go_wp2
  go_ret3
  exact ⟨rfl, H2.out⟩

set_option maxHeartbeats 1000000 in
theorem fail_errSize (s : ByteArray) (a n : Int) (w : World) (p : Nat → Addr) (hG : Globs w p)
    (hr : Calls Tryd.prog 45 #[.pointer (some ⟨w.heap.size, 0, none⟩)] (w.alloc (.cells #[.string s, .int .i64 a, .int .i64 0] 118)) fun e w' => e = .returned (.iface 78 (.agg #[.int .i64 n, .iface 120 (.pointer (some (p 4)))])) ∧ (w.alloc (.cells #[.string s, .int .i64 a, .int .i64 0] 118)).grownBy w' (some w.heap.size)) :
    Calls Tryd.prog 41 #[.string s, .int .i64 a] w fun e w' => e = .returned (.tuple #[.int .i64 0, .int .i64 0, .int .i64 12]) ∧ Below w.heap.size w w' := by
  have h1 : Below w.heap.size w (w.alloc (.cells #[.string s, .int .i64 a, .int .i64 0] 118)) := below_new _ _
  have hF := hG.free (Nat.le_refl w.heap.size)
  go_enter Tryd.func41, Tryd.ntmps41
  go_wp2_with fail
  refine hr.mono ?_
  rintro e w1 ⟨rfl, hg⟩
  have H1 := Aside.mk (below_grown h1 hg (Nat.le_refl _))
  have HG1 := Aside.mk (hG.below H1.out)
  clear hr hG h1 hF hg
  go_wp2_with fail
  refine (ToldSize.told_errSize n _ p HG1.out).mono ?_
  rintro e w2 ⟨rfl, hb⟩
  have H2 := Aside.mk (below_then H1.out hb)
  clear hb
  go_wp2
  go_ret3
  exact ⟨rfl, H2.out⟩

set_option maxHeartbeats 1000000 in
theorem good (s : ByteArray) (a m n : Int) (w : World)
    (hr : Calls Tryd.prog 45 #[.pointer (some ⟨w.heap.size, 0, none⟩)] (w.alloc (.cells #[.string s, .int .i64 a, .int .i64 0] 118)) fun e w' => e = .returned .nilIface ∧ (w.alloc (.cells #[.string s, .int .i64 a, .int .i64 0] 118)).grownBy w' (some w.heap.size) ∧ w'.heap[w.heap.size]? = some (.cells #[.string s, .int .i64 m, .int .i64 n] 118 (0, 0))) :
    Calls Tryd.prog 41 #[.string s, .int .i64 a] w fun e w' => e = .returned (.tuple #[.int .i64 n, .int .i64 m, .int .i64 0]) ∧ Below w.heap.size w w' := by
  have h1 : Below w.heap.size w (w.alloc (.cells #[.string s, .int .i64 a, .int .i64 0] 118)) := below_new _ _
  go_enter Tryd.func41, Tryd.ntmps41
  go_wp2_with fail
  refine hr.mono ?_
  rintro e w1 ⟨rfl, hg, hh⟩
  have H1 := Aside.mk (below_grown h1 hg (Nat.le_refl _))
  have c1 : w1.cell? ⟨w.heap.size, 1, none⟩ = some (.int .i64 m) := cel hh 1 rfl
  have c2 : w1.cell? ⟨w.heap.size, 2, none⟩ = some (.int .i64 n) := cel hh 2 rfl
  clear hr h1 hg hh
  go_wp2
  go_quiet (fail)
  go_wp2
  go_ret3
  exact ⟨rfl, below_then H1.out (below_drewN _ _)⟩
theorem decode (s : ByteArray) (a : Int) (w : World) (p : Nat → Addr) (hG : Globs w p) (h0 : 0 ≤ a) (h1 : a ≤ s.size) (hs : s.size ≤ maxLen) :
    Calls Tryd.prog 41 #[.string s, .int .i64 a] w fun e w' => e = .returned (.tuple #[.int .i64 (dec s a).1, .int .i64 (dec s a).2.1, .int .i64 (dec s a).2.2]) ∧ Below w.heap.size w w' := by
  have hG1 : Globs (w.alloc (.cells #[.string s, .int .i64 a, .int .i64 0] 118)) p := hG.below (below_new _ _)
  have hF := hG.free (Nat.le_refl w.heap.size)
  have hb : (w.alloc (.cells #[.string s, .int .i64 a, .int .i64 0] 118)).heap[w.heap.size]? = some (.cells #[.string s, .int .i64 a, .int .i64 0] 118 (0, 0)) := World.alloc_heap_new _ _
  have BR := bt_range s a
  unfold dec
  by_cases c1 : (s.size : Int) ≤ a
  · rw [if_pos c1]
    exact fail_errShort s a _ w p hG ((read_end s a _ _ p hG1 h0 c1 h1 hs hb).mono fun e w' h => ⟨h.1, grown_of_below h.2 _⟩)
  rw [if_neg c1]
  by_cases c2 : bt s a < 128
  · rw [if_pos c2]
    exact good s a _ _ w (read_small s a _ _ p hG1 hF h0 (by omega) c2 hs hb)
  rw [if_neg c2]
  by_cases c3 : bt s a = 128 ∨ 132 < bt s a
  · rw [if_pos c3]
    rcases c3 with c3 | c3
    · exact fail_errForm s a _ w p hG (read_form80 s a _ _ p hG1 hF h0 (by omega) c3 hs hb)
    · exact fail_errForm s a _ w p hG (read_form85 s a _ _ p hG1 hF h0 (by omega) c3 hs hb)
  rw [if_neg c3]
  by_cases c4 : (s.size : Int) < a + 1 + (bt s a - 128)
  · rw [if_pos c4]
    exact fail_errShort s a _ w p hG (read_short s a _ _ p hG1 hF h0 (by omega) (by omega) (by omega) c4 hs hb)
  rw [if_neg c4]
  by_cases c5 : 16777215 < lf s (a + 1) (bt s a - 128).toNat
  · rw [if_pos c5]
    exact fail_errSize s a _ w p hG (read_big s a _ _ p hG1 hF h0 (by omega) (by omega) (by omega) (by omega) c5 hs hb)
  rw [if_neg c5]
  exact good s a _ _ w (read_ok s a _ _ p hG1 hF h0 (by omega) (by omega) (by omega) (by omega) (by omega) hs hb)
end Go.Proofs.YtglmnglaliljdaaDoor.Size
