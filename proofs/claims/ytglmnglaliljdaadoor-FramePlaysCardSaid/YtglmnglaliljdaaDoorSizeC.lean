/- size.(*reader).read, behind its first test. Conditions: the shape of memory that each theorem names. -/
import Derived.Test.YtglmnglaliljdaaDoorSizeB
namespace Go.Proofs.YtglmnglaliljdaaDoor.Size
open Go.RowKit
set_option linter.unusedVariables false
set_option maxRecDepth 100000 in
set_option maxHeartbeats 2000000 in
theorem read_small (s : ByteArray) (a : Int) (g : Nat) (w : World) (p : Nat → Addr) (hG : Globs w p) (hF : GFree p g) (h0 : 0 ≤ a) (h1 : a < s.size) (h2 : bt s a < 128) (hs : s.size ≤ maxLen)
    (hb : w.heap[g]? = some (.cells #[.string s, .int .i64 a, .int .i64 0] 118 (0, 0))) :
    Calls Tryd.prog 45 #[.pointer (some ⟨g, 0, none⟩)] w fun e w' => e = .returned .nilIface ∧ w.grownBy w' (some g) ∧ w'.heap[g]? = some (.cells #[.string s, .int .i64 (a + 1), .int .i64 (bt s a)] 118 (0, 0)) := by
  have c0 := cel hb 0 rfl
  have c1 := cel hb 1 rfl
  have c2 := cel hb 2 rfl
  have k0 := hG.cell 5 (by decide)
  have k1 := hG.cell 6 (by decide)
  have BR := bt_range s a
  have hB := bt_at s a
  have HB := Aside.mk hb
  have HG := Aside.mk hG
  have HM := Aside.mk hs
  unfold maxLen at hs
  clear hb hG
  go_enter Tryd.func45, Tryd.ntmps45
  go_wp2
  go_region_held3 (fun w' => w'.cell? ⟨g, 0, none⟩ = some (.string s) ∧ w'.cell? ⟨g, 1, none⟩ = some (.int .i64 a) ∧ w'.cell? ⟨g, 2, none⟩ = some (.int .i64 0) ∧ w'.cell? ⟨5, 0, none⟩ = some (.iface 120 (.pointer (some (p 5))))) (first | exact ⟨c0, c1, c2, k0⟩ | exact ⟨d0, d1, d2, dk⟩ | exact ⟨e0, e1, e2, ek⟩ | exact ⟨cell_below d0 (below_new _ _), cell_below d1 (below_new _ _), cell_below d2 (below_new _ _), cell_below dk (below_new _ _)⟩)
    (first
      | (go_at_call 46; refine (has_yes s a 1 _ h0 (by omega) HM.out (by omega)).mono ?_; rintro e w1 ⟨rfl, hb⟩; have H1 := Aside.mk (below_then (below_drew w) hb); have d0 := cell_below c0 H1.out; have d1 := cell_below c1 H1.out; have d2 := cell_below c2 H1.out; have dk := cell_below k0 H1.out; clear hb)
      | (go_at_call 32; refine (first_no 0 120 (.pointer (some (p 5))) _ _ ?_ ?_).mono ?_; exact cell_new _ _ _ _ 0 rfl; exact cell_new _ _ _ _ 1 rfl; rintro e w2 ⟨rfl, hb⟩; have H2 := Aside.mk (below_then (below_then H1.out (below_new _ _)) hb); have e0 := cell_below c0 H2.out; have e1 := cell_below c1 H2.out; have e2 := cell_below c2 H2.out; have ek := cell_below k0 H2.out; clear hb))
  have ef := cell_below k1 H2.out
  have hh := blk_below HB.out H2.out
  have f1 := frz hh 1
  have f2 := frz hh 2
  have HH := Aside.mk hh
  clear hh c0 c1 c2 k0 k1
  go_wp2
  go_quiet (fail)
  go_wp2
  go_ret
  refine ⟨rfl, ?_, ?_⟩
  · exact grown_trans (grown_trans (grown_of_below (below_then H2.out (below_drewN _ _)) _) (set_grown _ _ _ _)) (set_grown _ _ _ _)
  · exact set_blk (set_blk (w := w2.drewN _) HH.out 1 _) 2 _
set_option maxRecDepth 100000 in
set_option maxHeartbeats 2000000 in
theorem read_form80 (s : ByteArray) (a : Int) (g : Nat) (w : World) (p : Nat → Addr) (hG : Globs w p) (hF : GFree p g) (h0 : 0 ≤ a) (h1 : a < s.size) (h2 : bt s a = 128) (hs : s.size ≤ maxLen)
    (hb : w.heap[g]? = some (.cells #[.string s, .int .i64 a, .int .i64 0] 118 (0, 0))) :
    Calls Tryd.prog 45 #[.pointer (some ⟨g, 0, none⟩)] w fun e w' => e = .returned (.iface 78 (.agg #[.int .i64 (bt s a), .iface 120 (.pointer (some (p 6)))])) ∧ w.grownBy w' (some g) := by
  have c0 := cel hb 0 rfl
  have c1 := cel hb 1 rfl
  have c2 := cel hb 2 rfl
  have k0 := hG.cell 5 (by decide)
  have k1 := hG.cell 6 (by decide)
  have BR := bt_range s a
  have hB := bt_at s a
  have HB := Aside.mk hb
  have HG := Aside.mk hG
  have HM := Aside.mk hs
  unfold maxLen at hs
  clear hb hG
  have q1 : decide (bt s a < 128) = false := by rw [h2]; rfl
  have q2 : (bt s a == 128) = true := by rw [h2]; rfl
  clear h2
  go_enter Tryd.func45, Tryd.ntmps45
  go_wp2
  go_region_held3 (fun w' => w'.cell? ⟨g, 0, none⟩ = some (.string s) ∧ w'.cell? ⟨g, 1, none⟩ = some (.int .i64 a) ∧ w'.cell? ⟨g, 2, none⟩ = some (.int .i64 0) ∧ w'.cell? ⟨5, 0, none⟩ = some (.iface 120 (.pointer (some (p 5))))) (first | exact ⟨c0, c1, c2, k0⟩ | exact ⟨d0, d1, d2, dk⟩ | exact ⟨e0, e1, e2, ek⟩ | exact ⟨cell_below d0 (below_new _ _), cell_below d1 (below_new _ _), cell_below d2 (below_new _ _), cell_below dk (below_new _ _)⟩)
    (first
      | (go_at_call 46; refine (has_yes s a 1 _ h0 (by omega) HM.out (by omega)).mono ?_; rintro e w1 ⟨rfl, hb⟩; have H1 := Aside.mk (below_then (below_drew w) hb); have d0 := cell_below c0 H1.out; have d1 := cell_below c1 H1.out; have d2 := cell_below c2 H1.out; have dk := cell_below k0 H1.out; clear hb)
      | (go_at_call 32; refine (first_no 0 120 (.pointer (some (p 5))) _ _ ?_ ?_).mono ?_; exact cell_new _ _ _ _ 0 rfl; exact cell_new _ _ _ _ 1 rfl; rintro e w2 ⟨rfl, hb⟩; have H2 := Aside.mk (below_then (below_then H1.out (below_new _ _)) hb); have e0 := cell_below c0 H2.out; have e1 := cell_below c1 H2.out; have e2 := cell_below c2 H2.out; have ek := cell_below k0 H2.out; clear hb))
  have ef := cell_below k1 H2.out
  have hh := blk_below HB.out H2.out
  have f1 := frz hh 1
  have f2 := frz hh 2
  have HH := Aside.mk hh
  clear hh c0 c1 c2 k0 k1
  go_wp2
  go_quiet (fail)
  go_wp2
  go_ret
  exact ⟨rfl, grown_trans (grown_of_below (below_then H2.out (below_drewN _ _)) _) (set_grown _ _ _ _)⟩
set_option maxRecDepth 100000 in
set_option maxHeartbeats 2000000 in
theorem read_form85 (s : ByteArray) (a : Int) (g : Nat) (w : World) (p : Nat → Addr) (hG : Globs w p) (hF : GFree p g) (h0 : 0 ≤ a) (h1 : a < s.size) (h2 : 132 < bt s a) (hs : s.size ≤ maxLen)
    (hb : w.heap[g]? = some (.cells #[.string s, .int .i64 a, .int .i64 0] 118 (0, 0))) :
    Calls Tryd.prog 45 #[.pointer (some ⟨g, 0, none⟩)] w fun e w' => e = .returned (.iface 78 (.agg #[.int .i64 (bt s a), .iface 120 (.pointer (some (p 6)))])) ∧ w.grownBy w' (some g) := by
  have c0 := cel hb 0 rfl
  have c1 := cel hb 1 rfl
  have c2 := cel hb 2 rfl
  have k0 := hG.cell 5 (by decide)
  have k1 := hG.cell 6 (by decide)
  have BR := bt_range s a
  have hB := bt_at s a
  have HB := Aside.mk hb
  have HG := Aside.mk hG
  have HM := Aside.mk hs
  unfold maxLen at hs
  clear hb hG
  have q2 : (bt s a == 128) = false := by simp; omega
  go_enter Tryd.func45, Tryd.ntmps45
  go_wp2
  go_region_held3 (fun w' => w'.cell? ⟨g, 0, none⟩ = some (.string s) ∧ w'.cell? ⟨g, 1, none⟩ = some (.int .i64 a) ∧ w'.cell? ⟨g, 2, none⟩ = some (.int .i64 0) ∧ w'.cell? ⟨5, 0, none⟩ = some (.iface 120 (.pointer (some (p 5))))) (first | exact ⟨c0, c1, c2, k0⟩ | exact ⟨d0, d1, d2, dk⟩ | exact ⟨e0, e1, e2, ek⟩ | exact ⟨cell_below d0 (below_new _ _), cell_below d1 (below_new _ _), cell_below d2 (below_new _ _), cell_below dk (below_new _ _)⟩)
    (first
      | (go_at_call 46; refine (has_yes s a 1 _ h0 (by omega) HM.out (by omega)).mono ?_; rintro e w1 ⟨rfl, hb⟩; have H1 := Aside.mk (below_then (below_drew w) hb); have d0 := cell_below c0 H1.out; have d1 := cell_below c1 H1.out; have d2 := cell_below c2 H1.out; have dk := cell_below k0 H1.out; clear hb)
      | (go_at_call 32; refine (first_no 0 120 (.pointer (some (p 5))) _ _ ?_ ?_).mono ?_; exact cell_new _ _ _ _ 0 rfl; exact cell_new _ _ _ _ 1 rfl; rintro e w2 ⟨rfl, hb⟩; have H2 := Aside.mk (below_then (below_then H1.out (below_new _ _)) hb); have e0 := cell_below c0 H2.out; have e1 := cell_below c1 H2.out; have e2 := cell_below c2 H2.out; have ek := cell_below k0 H2.out; clear hb))
  have ef := cell_below k1 H2.out
  have hh := blk_below HB.out H2.out
  have f1 := frz hh 1
  have f2 := frz hh 2
  have HH := Aside.mk hh
  clear hh c0 c1 c2 k0 k1
  go_wp2
  go_quiet (fail)
  go_wp2
  go_ret
  exact ⟨rfl, grown_trans (grown_of_below (below_then H2.out (below_drewN _ _)) _) (set_grown _ _ _ _)⟩
set_option maxRecDepth 100000 in
set_option maxHeartbeats 2000000 in
theorem read_short (s : ByteArray) (a : Int) (g : Nat) (w : World) (p : Nat → Addr) (hG : Globs w p) (hF : GFree p g) (h0 : 0 ≤ a) (h1 : a < s.size) (h2 : 128 < bt s a) (h3 : bt s a ≤ 132) (h4 : s.size < a + 1 + (bt s a - 128)) (hs : s.size ≤ maxLen)
    (hb : w.heap[g]? = some (.cells #[.string s, .int .i64 a, .int .i64 0] 118 (0, 0))) :
    Calls Tryd.prog 45 #[.pointer (some ⟨g, 0, none⟩)] w fun e w' => e = .returned (.iface 78 (.agg #[.int .i64 (bt s a - 128), .iface 120 (.pointer (some (p 5)))])) ∧ w.grownBy w' (some g) := by
  have c0 := cel hb 0 rfl
  have c1 := cel hb 1 rfl
  have c2 := cel hb 2 rfl
  have k0 := hG.cell 5 (by decide)
  have k1 := hG.cell 6 (by decide)
  have BR := bt_range s a
  have hB := bt_at s a
  have HB := Aside.mk hb
  have HG := Aside.mk hG
  have HM := Aside.mk hs
  unfold maxLen at hs
  clear hb hG
  have q2 : (bt s a == 128) = false := by simp; omega
  go_enter Tryd.func45, Tryd.ntmps45
  go_wp2
  go_region_held3 (fun w' => w'.cell? ⟨g, 0, none⟩ = some (.string s) ∧ w'.cell? ⟨g, 1, none⟩ = some (.int .i64 a) ∧ w'.cell? ⟨g, 2, none⟩ = some (.int .i64 0) ∧ w'.cell? ⟨5, 0, none⟩ = some (.iface 120 (.pointer (some (p 5))))) (first | exact ⟨c0, c1, c2, k0⟩ | exact ⟨d0, d1, d2, dk⟩ | exact ⟨e0, e1, e2, ek⟩ | exact ⟨cell_below d0 (below_new _ _), cell_below d1 (below_new _ _), cell_below d2 (below_new _ _), cell_below dk (below_new _ _)⟩)
    (first
      | (go_at_call 46; refine (has_yes s a 1 _ h0 (by omega) HM.out (by omega)).mono ?_; rintro e w1 ⟨rfl, hb⟩; have H1 := Aside.mk (below_then (below_drew w) hb); have d0 := cell_below c0 H1.out; have d1 := cell_below c1 H1.out; have d2 := cell_below c2 H1.out; have dk := cell_below k0 H1.out; clear hb)
      | (go_at_call 32; refine (first_no 0 120 (.pointer (some (p 5))) _ _ ?_ ?_).mono ?_; exact cell_new _ _ _ _ 0 rfl; exact cell_new _ _ _ _ 1 rfl; rintro e w2 ⟨rfl, hb⟩; have H2 := Aside.mk (below_then (below_then H1.out (below_new _ _)) hb); have e0 := cell_below c0 H2.out; have e1 := cell_below c1 H2.out; have e2 := cell_below c2 H2.out; have ek := cell_below k0 H2.out; clear hb))
  have ef := cell_below k1 H2.out
  have hh := blk_below HB.out H2.out
  have f1 := frz hh 1
  have f2 := frz hh 2
  have HH := Aside.mk hh
  clear hh c0 c1 c2 k0 k1
  go_wp2
  go_quiet (fail)
  go_wp2
  obtain ⟨w3, hw3⟩ : ∃ w3, w3 = (w2.drewN nq).setCell ⟨g, 1, none⟩ (.int .i64 (a + 1)) := ⟨_, rfl⟩
  have HG3 := Aside.mk ((Globs.below HG.out (below_then H2.out (below_drewN _ nq))).grown hF (set_grown (w2.drewN nq) g 1 (.int .i64 (a + 1))))
  have H3 := Aside.mk (grown_trans (grown_of_below (below_then H2.out (below_drewN _ nq)) (some g)) (set_grown (w2.drewN nq) g 1 (.int .i64 (a + 1))))
  have hh3 := set_blk (w := w2.drewN nq) HH.out 1 (.int .i64 (a + 1))
  rw [← hw3] at HG3 H3 hh3 ⊢
  clear hw3
  have c0 := cel hh3 0 rfl
  have c1 := cel hh3 1 rfl
  have c2 := cel hh3 2 rfl
  have k0 := HG3.out.cell 5 (by decide)
  have HH3 := Aside.mk hh3
  clear hh3 f1 f2 e0 e1 e2 ek ef
  go_region_held3 (fun w' => w'.cell? ⟨g, 0, none⟩ = some (.string s) ∧ w'.cell? ⟨g, 1, none⟩ = some (.int .i64 (a + 1)) ∧ w'.cell? ⟨5, 0, none⟩ = some (.iface 120 (.pointer (some (p 5))))) (first | exact ⟨c0, c1, k0⟩ | exact ⟨d0, d1, dk⟩ | exact ⟨e0, e1, ek⟩ | exact ⟨cell_below d0 (below_new _ _), cell_below d1 (below_new _ _), cell_below dk (below_new _ _)⟩)
    (first
      | (go_at_call 46; refine (has_no s (a + 1) (bt s a - 128) _ (by omega) (by omega) HM.out (by omega)).mono ?_; rintro e w4 ⟨rfl, hb⟩; have H4 := Aside.mk (below_then (below_drew w3) hb); have d0 := cell_below c0 H4.out; have d1 := cell_below c1 H4.out; have dk := cell_below k0 H4.out; clear hb)
      | (go_at_call 32; refine (first_yes (bt s a - 128) 120 (.pointer (some (p 5))) _ _ ?_ ?_).mono ?_; exact cell_new _ _ _ _ 0 rfl; exact cell_new _ _ _ _ 1 rfl; rintro e w5 ⟨rfl, hb⟩; have H5 := Aside.mk (below_then (below_then H4.out (below_new _ _)) hb); have e0 := cell_below c0 H5.out; have e1 := cell_below c1 H5.out; have ek := cell_below k0 H5.out; clear hb))
  clear c0 c1 c2 k0 e0 e1 ek
  go_wp2
  go_ret
  exact ⟨rfl, grown_trans H3.out (grown_of_below H5.out _)⟩
end Go.Proofs.YtglmnglaliljdaaDoor.Size
