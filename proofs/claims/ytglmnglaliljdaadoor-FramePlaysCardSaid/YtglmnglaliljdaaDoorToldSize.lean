/- size.told: the number of an error. Conditions: the package's variables hold their sentinels. -/
import Derived.Test.YtglmnglaliljdaaDoorAsSize
import Derived.Test.YtglmnglaliljdaaDoorIsSize
import Derived.Test.YtglmnglaliljdaaDoorGlob
namespace Go.Proofs.YtglmnglaliljdaaDoor.ToldSize
open Go.RowKit
theorem is_yes (x : Value) (b : Addr) (w : World) :
    Calls Tryd.prog 28 #[.iface 78 (.agg #[x, .iface 120 (.pointer (some b))]), .iface 120 (.pointer (some b))] w fun e w' => e = .returned (.bool true) ∧ Below w.heap.size w w' :=
  (IsSize.is_same x b w).mono fun _ _ h => ⟨h.1, h.2 ▸ (Below.refl _ _).alloc (Nat.le_refl _) _⟩
theorem is_no (x : Value) {p : Nat → Addr} {w : World} (hG : Globs w p) (a b : Nat) (ha : a ∈ senNums) (hb : b ∈ senNums) (hne : a ≠ b) :
    Calls Tryd.prog 28 #[.iface 78 (.agg #[x, .iface 120 (.pointer (some (p a)))]), .iface 120 (.pointer (some (p b)))] w fun e w' => e = .returned (.bool false) ∧ Below w.heap.size w w' := by
  obtain ⟨ca, ta, h1⟩ := hG.blk a ha
  obtain ⟨cb, tb, h2⟩ := hG.blk b hb
  exact (IsSize.is_other x (p a) (p b) ca cb ta tb w (hG.inj a b ha hb hne) h1 h2).mono fun _ _ h => ⟨h.1, h.2 ▸ (Below.refl _ _).alloc (Nat.le_refl _) _⟩
theorem told_nil (w : World) : Calls Tryd.prog 26 #[.nilIface] w fun e w' => e = .returned (.int .i64 0) ∧ Below w.heap.size w w' := by
  go_enter Tryd.func26, Tryd.ntmps26
  go_wp2
  go_ret
  exact ⟨rfl, (Below.refl _ _).alloc (Nat.le_refl _) _⟩

set_option maxHeartbeats 1000000 in
theorem told_errShort (n : Int) (w : World) (p : Nat → Addr) (h : Globs w p) :
    Calls Tryd.prog 26 #[.iface 78 (.agg #[.int .i64 n, .iface 120 (.pointer (some (p 5)))])] w fun e w' => e = .returned (.int .i64 10) ∧ Below w.heap.size w w' := by
  go_enter Tryd.func26, Tryd.ntmps26
  go_wp2_with fail
  have h1 : Below w.heap.size w (w.alloc (.cells #[.int .i64 0, .nilIface] 78)) := (Below.refl _ _).alloc (Nat.le_refl _) _
  refine (AsSize.as_hit w.heap.size (.int .i64 0) .nilIface (.int .i64 n) (.iface 120 (.pointer (some (p 5)))) _ rfl rfl (h.below h1).et (World.alloc_heap_new w _)).mono ?_
  rintro e w0 ⟨rfl, hb, hc⟩
  have H0 := Aside.mk (h1.trans hb)
  have h0 := h.below H0.out
  clear h h1 hb hc
  have k0 := h0.cell 5 (by decide)
  go_wp2_with fail
  refine (is_yes _ _ _).mono ?_
  rintro e w1 ⟨rfl, hb⟩
  have H1 := Aside.mk (below_then H0.out hb)
  clear k0 hb
  go_wp2
  go_ret
  exact ⟨rfl, H1.out⟩

set_option maxHeartbeats 1000000 in
theorem told_errForm (n : Int) (w : World) (p : Nat → Addr) (h : Globs w p) :
    Calls Tryd.prog 26 #[.iface 78 (.agg #[.int .i64 n, .iface 120 (.pointer (some (p 6)))])] w fun e w' => e = .returned (.int .i64 11) ∧ Below w.heap.size w w' := by
  go_enter Tryd.func26, Tryd.ntmps26
  go_wp2_with fail
  have h1 : Below w.heap.size w (w.alloc (.cells #[.int .i64 0, .nilIface] 78)) := (Below.refl _ _).alloc (Nat.le_refl _) _
  refine (AsSize.as_hit w.heap.size (.int .i64 0) .nilIface (.int .i64 n) (.iface 120 (.pointer (some (p 6)))) _ rfl rfl (h.below h1).et (World.alloc_heap_new w _)).mono ?_
  rintro e w0 ⟨rfl, hb, hc⟩
  have H0 := Aside.mk (h1.trans hb)
  have h0 := h.below H0.out
  clear h h1 hb hc
  have k0 := h0.cell 5 (by decide)
  go_wp2_with fail
  refine (is_no _ h0 6 5 (by decide) (by decide) (by decide)).mono ?_
  rintro e w1 ⟨rfl, hb⟩
  have H1 := Aside.mk (below_then H0.out hb)
  have h1 := h0.below hb
  clear k0 hb H0 h0
  have k0 := h1.cell 6 (by decide)
  go_wp2_with fail
  refine (is_yes _ _ _).mono ?_
  rintro e w2 ⟨rfl, hb⟩
  have H2 := Aside.mk (below_then H1.out hb)
  clear k0 hb
  go_wp2
  go_ret
  exact ⟨rfl, H2.out⟩

set_option maxHeartbeats 1000000 in
theorem told_errSize (n : Int) (w : World) (p : Nat → Addr) (h : Globs w p) :
    Calls Tryd.prog 26 #[.iface 78 (.agg #[.int .i64 n, .iface 120 (.pointer (some (p 4)))])] w fun e w' => e = .returned (.int .i64 12) ∧ Below w.heap.size w w' := by
  go_enter Tryd.func26, Tryd.ntmps26
  go_wp2_with fail
  have h1 : Below w.heap.size w (w.alloc (.cells #[.int .i64 0, .nilIface] 78)) := (Below.refl _ _).alloc (Nat.le_refl _) _
  refine (AsSize.as_hit w.heap.size (.int .i64 0) .nilIface (.int .i64 n) (.iface 120 (.pointer (some (p 4)))) _ rfl rfl (h.below h1).et (World.alloc_heap_new w _)).mono ?_
  rintro e w0 ⟨rfl, hb, hc⟩
  have H0 := Aside.mk (h1.trans hb)
  have h0 := h.below H0.out
  clear h h1 hb hc
  have k0 := h0.cell 5 (by decide)
  go_wp2_with fail
  refine (is_no _ h0 4 5 (by decide) (by decide) (by decide)).mono ?_
  rintro e w1 ⟨rfl, hb⟩
  have H1 := Aside.mk (below_then H0.out hb)
  have h1 := h0.below hb
  clear k0 hb H0 h0
  have k0 := h1.cell 6 (by decide)
  go_wp2_with fail
  refine (is_no _ h1 4 6 (by decide) (by decide) (by decide)).mono ?_
  rintro e w2 ⟨rfl, hb⟩
  have H2 := Aside.mk (below_then H1.out hb)
  clear k0 hb
  go_wp2
  go_ret
  exact ⟨rfl, H2.out⟩
end Go.Proofs.YtglmnglaliljdaaDoor.ToldSize
