/- size.(*reader).read. -/
import Derived.Test.YtglmnglaliljdaaDoorSizeA
namespace Go.Proofs.YtglmnglaliljdaaDoor.Size
open Go.RowKit
set_option maxHeartbeats 1000000 in
theorem read_end (s : ByteArray) (a : Int) (g : Nat) (w : World) (p : Nat → Addr) (hG : Globs w p) (h0 : 0 ≤ a) (h1 : s.size ≤ a) (h2 : a ≤ s.size) (hs : s.size ≤ maxLen)
    (hb : w.heap[g]? = some (.cells #[.string s, .int .i64 a, .int .i64 0] 118 (0, 0))) :
    Calls Tryd.prog 45 #[.pointer (some ⟨g, 0, none⟩)] w fun e w' => e = .returned (.iface 78 (.agg #[.int .i64 0, .iface 120 (.pointer (some (p 5)))])) ∧ Below w.heap.size w w' := by
  have c0 : w.cell? ⟨g, 0, none⟩ = some (.string s) := by simp [World.cell?, hb]
  have c1 : w.cell? ⟨g, 1, none⟩ = some (.int .i64 a) := by simp [World.cell?, hb]
  have c2 : w.cell? ⟨g, 2, none⟩ = some (.int .i64 0) := by simp [World.cell?, hb]
  have k0 := hG.cell 5 (by decide)
  have BR := bt_range s a
  have hB := bt_at s a
  have HB := Aside.mk hb
  have HM := Aside.mk hs
  unfold maxLen at hs
  clear hb
  go_enter Tryd.func45, Tryd.ntmps45
  go_wp2
  go_region_held3 (fun w' => w'.cell? ⟨g, 0, none⟩ = some (.string s) ∧ w'.cell? ⟨g, 1, none⟩ = some (.int .i64 a) ∧ w'.cell? ⟨g, 2, none⟩ = some (.int .i64 0) ∧ w'.cell? ⟨5, 0, none⟩ = some (.iface 120 (.pointer (some (p 5))))) (first | exact ⟨c0, c1, c2, k0⟩ | exact ⟨d0, d1, d2, dk⟩ | exact ⟨e0, e1, e2, ek⟩ | exact ⟨cell_below d0 (below_new _ _), cell_below d1 (below_new _ _), cell_below d2 (below_new _ _), cell_below dk (below_new _ _)⟩)
    (first
      | (go_at_call 46; refine (has_no s a 1 _ h0 (by omega) HM.out (by omega)).mono ?_; rintro e w1 ⟨rfl, hb⟩; have H1 := Aside.mk (below_then (below_drew w) hb); have d0 := cell_below c0 H1.out; have d1 := cell_below c1 H1.out; have d2 := cell_below c2 H1.out; have dk := cell_below k0 H1.out; clear hb)
      | (go_at_call 32; refine (first_yes 0 120 (.pointer (some (p 5))) _ _ ?_ ?_).mono ?_; exact cell_new _ _ _ _ 0 rfl; exact cell_new _ _ _ _ 1 rfl; rintro e w2 ⟨rfl, hb⟩; have H2 := Aside.mk (below_then (below_then H1.out (below_new _ _)) hb); have e0 := cell_below c0 H2.out; have e1 := cell_below c1 H2.out; have e2 := cell_below c2 H2.out; have ek := cell_below k0 H2.out; clear hb))
  clear c0 c1 c2 d0 d1 d2 dk
  go_wp2
  go_ret
  exact ⟨rfl, H2.out⟩
end Go.Proofs.YtglmnglaliljdaaDoor.Size
