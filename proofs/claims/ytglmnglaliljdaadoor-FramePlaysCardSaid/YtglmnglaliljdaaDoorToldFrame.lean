/- frame.told: the number of an error. Conditions: the package's variables hold their sentinels. -/
import Derived.Test.YtglmnglaliljdaaDoorAsFrame
import Derived.Test.YtglmnglaliljdaaDoorIsFrame
import Derived.Test.YtglmnglaliljdaaDoorGlob
namespace Go.Proofs.YtglmnglaliljdaaDoor.ToldFrame
open Go.RowKit
theorem is_yes (x : Value) (b : Addr) (w : World) :
    Calls Tryd.prog 28 #[.iface 62 (.agg #[x, .iface 120 (.pointer (some b))]), .iface 120 (.pointer (some b))] w fun e w' => e = .returned (.bool true) ∧ Below w.heap.size w w' :=
  (IsFrame.is_same x b w).mono fun _ _ h => ⟨h.1, h.2 ▸ (Below.refl _ _).alloc (Nat.le_refl _) _⟩
theorem is_no (x : Value) {p : Nat → Addr} {w : World} (hG : Globs w p) (a b : Nat) (ha : a ∈ senNums) (hb : b ∈ senNums) (hne : a ≠ b) :
    Calls Tryd.prog 28 #[.iface 62 (.agg #[x, .iface 120 (.pointer (some (p a)))]), .iface 120 (.pointer (some (p b)))] w fun e w' => e = .returned (.bool false) ∧ Below w.heap.size w w' := by
  obtain ⟨ca, ta, h1⟩ := hG.blk a ha
  obtain ⟨cb, tb, h2⟩ := hG.blk b hb
  exact (IsFrame.is_other x (p a) (p b) ca cb ta tb w (hG.inj a b ha hb hne) h1 h2).mono fun _ _ h => ⟨h.1, h.2 ▸ (Below.refl _ _).alloc (Nat.le_refl _) _⟩
theorem told_nil (w : World) : Calls Tryd.prog 20 #[.nilIface] w fun e w' => e = .returned (.int .i64 0) ∧ Below w.heap.size w w' := by
  go_enter Tryd.func20, Tryd.ntmps20
  go_wp2
  go_ret
  exact ⟨rfl, (Below.refl _ _).alloc (Nat.le_refl _) _⟩

set_option maxHeartbeats 1000000 in
theorem told_errTag (n : Int) (w : World) (p : Nat → Addr) (h : Globs w p) :
    Calls Tryd.prog 20 #[.iface 62 (.agg #[.int .i64 n, .iface 120 (.pointer (some (p 0)))])] w fun e w' => e = .returned (.int .i64 20) ∧ Below w.heap.size w w' := by
  go_enter Tryd.func20, Tryd.ntmps20
  go_wp2_with fail
  have h1 : Below w.heap.size w (w.alloc (.cells #[.int .i64 0, .nilIface] 62)) := (Below.refl _ _).alloc (Nat.le_refl _) _
  refine (AsFrame.as_hit w.heap.size (.int .i64 0) .nilIface (.int .i64 n) (.iface 120 (.pointer (some (p 0)))) _ rfl rfl (h.below h1).et (World.alloc_heap_new w _)).mono ?_
  rintro e w0 ⟨rfl, hb, hc⟩
  have H0 := Aside.mk (h1.trans hb)
  have c0 : w0.cell? ⟨w.heap.size, 0, none⟩ = some (.int .i64 n) := cel hc 0 rfl
  have d0 : w0.cell? ⟨w.heap.size, 1, none⟩ = some (.iface 120 (.pointer (some (p 0)))) := cel hc 1 rfl
  have h0 := h.below H0.out
  clear h h1 hb hc
  have k0 := h0.cell 0 (by decide)
  go_wp2_with fail
  refine (is_yes _ _ _).mono ?_
  rintro e w1 ⟨rfl, hb⟩
  have H1 := Aside.mk (below_then H0.out hb)
  clear k0 hb
  go_wp2
  go_ret
  exact ⟨rfl, H1.out⟩

set_option maxHeartbeats 1000000 in
theorem told_errForm (n : Int) (w : World) (p : Nat → Addr) (h : Globs w p) :
    Calls Tryd.prog 20 #[.iface 62 (.agg #[.int .i64 n, .iface 120 (.pointer (some (p 1)))])] w fun e w' => e = .returned (.int .i64 11) ∧ Below w.heap.size w w' := by
  go_enter Tryd.func20, Tryd.ntmps20
  go_wp2_with fail
  have h1 : Below w.heap.size w (w.alloc (.cells #[.int .i64 0, .nilIface] 62)) := (Below.refl _ _).alloc (Nat.le_refl _) _
  refine (AsFrame.as_hit w.heap.size (.int .i64 0) .nilIface (.int .i64 n) (.iface 120 (.pointer (some (p 1)))) _ rfl rfl (h.below h1).et (World.alloc_heap_new w _)).mono ?_
  rintro e w0 ⟨rfl, hb, hc⟩
  have H0 := Aside.mk (h1.trans hb)
  have c0 : w0.cell? ⟨w.heap.size, 0, none⟩ = some (.int .i64 n) := cel hc 0 rfl
  have d0 : w0.cell? ⟨w.heap.size, 1, none⟩ = some (.iface 120 (.pointer (some (p 1)))) := cel hc 1 rfl
  have h0 := h.below H0.out
  clear h h1 hb hc
  have k0 := h0.cell 0 (by decide)
  go_wp2_with fail
  refine (is_no _ h0 1 0 (by decide) (by decide) (by decide)).mono ?_
  rintro e w1 ⟨rfl, hb⟩
  have H1 := Aside.mk (below_then H0.out hb)
  have c1 := cell_below c0 hb
  have d1 := cell_below d0 hb
  have h1 := h0.below hb
  clear k0 hb H0 c0 d0 h0
  have k0 := h1.cell 1 (by decide)
  go_wp2_with fail
  refine (is_yes _ _ _).mono ?_
  rintro e w2 ⟨rfl, hb⟩
  have H2 := Aside.mk (below_then H1.out hb)
  clear k0 hb
  go_wp2
  go_ret
  exact ⟨rfl, H2.out⟩

set_option maxHeartbeats 1000000 in
theorem told_errLarge (n : Int) (w : World) (p : Nat → Addr) (h : Globs w p) :
    Calls Tryd.prog 20 #[.iface 62 (.agg #[.int .i64 n, .iface 120 (.pointer (some (p 2)))])] w fun e w' => e = .returned (.int .i64 131) ∧ Below w.heap.size w w' := by
  go_enter Tryd.func20, Tryd.ntmps20
  go_wp2_with fail
  have h1 : Below w.heap.size w (w.alloc (.cells #[.int .i64 0, .nilIface] 62)) := (Below.refl _ _).alloc (Nat.le_refl _) _
  refine (AsFrame.as_hit w.heap.size (.int .i64 0) .nilIface (.int .i64 n) (.iface 120 (.pointer (some (p 2)))) _ rfl rfl (h.below h1).et (World.alloc_heap_new w _)).mono ?_
  rintro e w0 ⟨rfl, hb, hc⟩
  have H0 := Aside.mk (h1.trans hb)
  have c0 : w0.cell? ⟨w.heap.size, 0, none⟩ = some (.int .i64 n) := cel hc 0 rfl
  have d0 : w0.cell? ⟨w.heap.size, 1, none⟩ = some (.iface 120 (.pointer (some (p 2)))) := cel hc 1 rfl
  have h0 := h.below H0.out
  clear h h1 hb hc
  have k0 := h0.cell 0 (by decide)
  go_wp2_with fail
  refine (is_no _ h0 2 0 (by decide) (by decide) (by decide)).mono ?_
  rintro e w1 ⟨rfl, hb⟩
  have H1 := Aside.mk (below_then H0.out hb)
  have c1 := cell_below c0 hb
  have d1 := cell_below d0 hb
  have h1 := h0.below hb
  clear k0 hb H0 c0 d0 h0
  have k0 := h1.cell 1 (by decide)
  go_wp2_with fail
  refine (is_no _ h1 2 1 (by decide) (by decide) (by decide)).mono ?_
  rintro e w2 ⟨rfl, hb⟩
  have H2 := Aside.mk (below_then H1.out hb)
  have c2 := cell_below c1 hb
  have d2 := cell_below d1 hb
  have h2 := h1.below hb
  clear k0 hb H1 c1 d1 h1
  have k0 := h2.cell 2 (by decide)
  go_wp2_with fail
  refine (is_yes _ _ _).mono ?_
  rintro e w3 ⟨rfl, hb⟩
  have H3 := Aside.mk (below_then H2.out hb)
  clear k0 hb
  go_wp2
  go_ret
  exact ⟨rfl, H3.out⟩

set_option maxHeartbeats 1000000 in
theorem told_errMore (n : Int) (w : World) (p : Nat → Addr) (h : Globs w p) :
    Calls Tryd.prog 20 #[.iface 62 (.agg #[.int .i64 n, .iface 120 (.pointer (some (p 3)))])] w fun e w' => e = .returned (.int .i64 0) ∧ Below w.heap.size w w' := by
  go_enter Tryd.func20, Tryd.ntmps20
  go_wp2_with fail
  have h1 : Below w.heap.size w (w.alloc (.cells #[.int .i64 0, .nilIface] 62)) := (Below.refl _ _).alloc (Nat.le_refl _) _
  refine (AsFrame.as_hit w.heap.size (.int .i64 0) .nilIface (.int .i64 n) (.iface 120 (.pointer (some (p 3)))) _ rfl rfl (h.below h1).et (World.alloc_heap_new w _)).mono ?_
  rintro e w0 ⟨rfl, hb, hc⟩
  have H0 := Aside.mk (h1.trans hb)
  have c0 : w0.cell? ⟨w.heap.size, 0, none⟩ = some (.int .i64 n) := cel hc 0 rfl
  have d0 : w0.cell? ⟨w.heap.size, 1, none⟩ = some (.iface 120 (.pointer (some (p 3)))) := cel hc 1 rfl
  have h0 := h.below H0.out
  clear h h1 hb hc
  have k0 := h0.cell 0 (by decide)
  go_wp2_with fail
  refine (is_no _ h0 3 0 (by decide) (by decide) (by decide)).mono ?_
  rintro e w1 ⟨rfl, hb⟩
  have H1 := Aside.mk (below_then H0.out hb)
  have c1 := cell_below c0 hb
  have d1 := cell_below d0 hb
  have h1 := h0.below hb
  clear k0 hb H0 c0 d0 h0
  have k0 := h1.cell 1 (by decide)
  go_wp2_with fail
  refine (is_no _ h1 3 1 (by decide) (by decide) (by decide)).mono ?_
  rintro e w2 ⟨rfl, hb⟩
  have H2 := Aside.mk (below_then H1.out hb)
  have c2 := cell_below c1 hb
  have d2 := cell_below d1 hb
  have h2 := h1.below hb
  clear k0 hb H1 c1 d1 h1
  have k0 := h2.cell 2 (by decide)
  go_wp2_with fail
  refine (is_no _ h2 3 2 (by decide) (by decide) (by decide)).mono ?_
  rintro e w3 ⟨rfl, hb⟩
  have H3 := Aside.mk (below_then H2.out hb)
  clear k0 hb
  go_wp2
  go_ret
  exact ⟨rfl, H3.out⟩
end Go.Proofs.YtglmnglaliljdaaDoor.ToldFrame
