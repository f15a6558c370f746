/- size.(*reader).read: its loop. Conditions: the shape of memory that each theorem names. -/
import Derived.Test.YtglmnglaliljdaaDoorSizeC
import Derived.Deep.LoopGhost
import Derived.BigRegion
import Derived.RegionTactic
namespace Go.Proofs.YtglmnglaliljdaaDoor.Size
open Go.RowKit
set_option linter.unusedVariables false
/-- the number that k bytes from a place on tell -/
def lf (s : ByteArray) (a : Int) : Nat → Int
  | 0 => 0
  | k + 1 => lf s a k * 256 + bt s (a + k)
theorem lf_lt (s : ByteArray) (a : Int) (k : Nat) : 0 ≤ lf s a k ∧ lf s a k < 256 ^ k := by
  induction k with
  | zero => simp [lf]
  | succ k ih =>
    have h := bt_range s (a + k)
    obtain ⟨h1, h2⟩ := ih
    have e : (256 : Int) ^ (k + 1) = 256 ^ k * 256 := by rw [Int.pow_succ]
    rw [e]
    simp only [lf]
    constructor <;> omega
theorem lf_small (s : ByteArray) (a : Int) (k : Nat) (hk : k ≤ 3) : lf s a k ≤ 16777215 := by
  have h := (lf_lt s a k).2
  have : (256 : Int) ^ k ≤ 256 ^ 3 := by
    rcases (show k = 0 ∨ k = 1 ∨ k = 2 ∨ k = 3 by omega) with rfl | rfl | rfl | rfl <;> decide
  have e : (256 : Int) ^ 3 = 16777216 := by decide
  omega
set_option maxRecDepth 100000 in
set_option maxHeartbeats 2000000 in
theorem read_ok (s : ByteArray) (a : Int) (g : Nat) (w : World) (p : Nat → Addr) (hG : Globs w p) (hF : GFree p g) (h0 : 0 ≤ a) (h1 : a < s.size) (h2 : 128 < bt s a) (h3 : bt s a ≤ 132) (h4 : a + 1 + (bt s a - 128) ≤ s.size) (h5 : lf s (a + 1) (bt s a - 128).toNat ≤ 16777215) (hs : s.size ≤ maxLen)
    (hb : w.heap[g]? = some (.cells #[.string s, .int .i64 a, .int .i64 0] 118 (0, 0))) :
    Calls Tryd.prog 45 #[.pointer (some ⟨g, 0, none⟩)] w fun e w' => e = .returned .nilIface ∧ w.grownBy w' (some g) ∧ w'.heap[g]? = some (.cells #[.string s, .int .i64 (a + 1 + (bt s a - 128)), .int .i64 (lf s (a + 1) (bt s a - 128).toNat)] 118 (0, 0)) := by
  have c0 := cel hb 0 rfl
  have c1 := cel hb 1 rfl
  have c2 := cel hb 2 rfl
  have k0 := hG.cell 5 (by decide)
  have k1 := hG.cell 6 (by decide)
  have BR := bt_range s a
  have hB := bt_at s a
  have HB := Aside.mk hb
  have HG := Aside.mk hG
  have HM := Aside.mk hs
  unfold maxLen at hs
  clear hb hG
  have q2 : (bt s a == 128) = false := by simp; omega
  go_enter Tryd.func45, Tryd.ntmps45
  go_wp2
  go_region_held3 (fun w' => w'.cell? ⟨g, 0, none⟩ = some (.string s) ∧ w'.cell? ⟨g, 1, none⟩ = some (.int .i64 a) ∧ w'.cell? ⟨g, 2, none⟩ = some (.int .i64 0) ∧ w'.cell? ⟨5, 0, none⟩ = some (.iface 120 (.pointer (some (p 5))))) (first | exact ⟨c0, c1, c2, k0⟩ | exact ⟨d0, d1, d2, dk⟩ | exact ⟨e0, e1, e2, ek⟩ | exact ⟨cell_below d0 (below_new _ _), cell_below d1 (below_new _ _), cell_below d2 (below_new _ _), cell_below dk (below_new _ _)⟩)
    (first
      | (go_at_call 46; refine (has_yes s a 1 _ h0 (by omega) HM.out (by omega)).mono ?_; rintro e w1 ⟨rfl, hb⟩; have H1 := Aside.mk (below_then (below_drew w) hb); have d0 := cell_below c0 H1.out; have d1 := cell_below c1 H1.out; have d2 := cell_below c2 H1.out; have dk := cell_below k0 H1.out; clear hb)
      | (go_at_call 32; refine (first_no 0 120 (.pointer (some (p 5))) _ _ ?_ ?_).mono ?_; exact cell_new _ _ _ _ 0 rfl; exact cell_new _ _ _ _ 1 rfl; rintro e w2 ⟨rfl, hb⟩; have H2 := Aside.mk (below_then (below_then H1.out (below_new _ _)) hb); have e0 := cell_below c0 H2.out; have e1 := cell_below c1 H2.out; have e2 := cell_below c2 H2.out; have ek := cell_below k0 H2.out; clear hb))
  have ef := cell_below k1 H2.out
  have hh := blk_below HB.out H2.out
  have f1 := frz hh 1
  have f2 := frz hh 2
  have HH := Aside.mk hh
  clear hh c0 c1 c2 k0 k1
  go_wp2
  go_quiet (fail)
  go_wp2
  obtain ⟨w3, hw3⟩ : ∃ w3, w3 = (w2.drewN nq).setCell ⟨g, 1, none⟩ (.int .i64 (a + 1)) := ⟨_, rfl⟩
  have HG3 := Aside.mk ((Globs.below HG.out (below_then H2.out (below_drewN _ nq))).grown hF (set_grown (w2.drewN nq) g 1 (.int .i64 (a + 1))))
  have H3 := Aside.mk (grown_trans (grown_of_below (below_then H2.out (below_drewN _ nq)) (some g)) (set_grown (w2.drewN nq) g 1 (.int .i64 (a + 1))))
  have hh3 := set_blk (w := w2.drewN nq) HH.out 1 (.int .i64 (a + 1))
  rw [← hw3] at HG3 H3 hh3 ⊢
  clear hw3
  have c0 := cel hh3 0 rfl
  have c1 := cel hh3 1 rfl
  have c2 := cel hh3 2 rfl
  have k0 := HG3.out.cell 5 (by decide)
  have HH3 := Aside.mk hh3
  clear hh3 f1 f2 e0 e1 e2 ek ef
  go_region_held3 (fun w' => w'.cell? ⟨g, 0, none⟩ = some (.string s) ∧ w'.cell? ⟨g, 1, none⟩ = some (.int .i64 (a + 1)) ∧ w'.cell? ⟨5, 0, none⟩ = some (.iface 120 (.pointer (some (p 5))))) (first | exact ⟨c0, c1, k0⟩ | exact ⟨d0, d1, dk⟩ | exact ⟨e0, e1, ek⟩ | exact ⟨cell_below d0 (below_new _ _), cell_below d1 (below_new _ _), cell_below dk (below_new _ _)⟩)
    (first
      | (go_at_call 46; refine (has_yes s (a + 1) (bt s a - 128) _ (by omega) (by omega) HM.out (by omega)).mono ?_; rintro e w4 ⟨rfl, hb⟩; have H4 := Aside.mk (below_then (below_drew w3) hb); have d0 := cell_below c0 H4.out; have d1 := cell_below c1 H4.out; have dk := cell_below k0 H4.out; clear hb)
      | (go_at_call 32; refine (first_no (bt s a - 128) 120 (.pointer (some (p 5))) _ _ ?_ ?_).mono ?_; exact cell_new _ _ _ _ 0 rfl; exact cell_new _ _ _ _ 1 rfl; rintro e w5 ⟨rfl, hb⟩; have H5 := Aside.mk (below_then (below_then H4.out (below_new _ _)) hb); have e0 := cell_below c0 H5.out; have e1 := cell_below c1 H5.out; have ek := cell_below k0 H5.out; clear hb))
  have HG5 := Aside.mk (HG3.out.below H5.out)
  have HH5 := Aside.mk (blk_below HH3.out H5.out)
  have H05 := Aside.mk (grown_trans H3.out (grown_of_below H5.out (some g)))
  clear c0 c1 c2 k0 e0 e1 ek q2 HG HG3 H3 H5 HB HH HH3
  go_wp2
  have hk : ((bt s a - 128).toNat : Int) = bt s a - 128 := by omega
  have HK := Aside.mk hk
  clear hk
  go_loopg [78] (bt s a - 128).toNat (fun gk v wr => ∃ j : Int, v = .int .i64 j ∧ Aside (0 ≤ j ∧ j + gk = bt s a - 128 ∧ w.grownBy wr (some g) ∧ Globs wr p ∧ wr.heap[g]? = some (.cells #[.string s, .int .i64 (a + 1 + j), .int .i64 (lf s (a + 1) j.toNat)] 118 (0, 0))))
  case atStart => exact ⟨0, rfl, ⟨Int.le_refl _, by have := HK.out; omega, H05.out, HG5.out, by have := HH5.out; simpa [lf] using this⟩⟩
  case round =>
    clear H05 HG5 HH5 hB
    obtain ⟨j, rfl, HJ⟩ := hrel
    have j0 : 0 ≤ j := HJ.out.1
    have c0 : wr.cell? ⟨g, 0, none⟩ = some (.string s) := cel HJ.out.2.2.2.2 0 rfl
    have c1 : wr.cell? ⟨g, 1, none⟩ = some (.int .i64 (a + 1 + j)) := cel HJ.out.2.2.2.2 1 rfl
    have c2 : wr.cell? ⟨g, 2, none⟩ = some (.int .i64 (lf s (a + 1) j.toNat)) := cel HJ.out.2.2.2.2 2 rfl
    by_cases hj : j < bt s a - 128
    · have hB := bt_at s (a + 1 + j)
      have BR2 := bt_range s (a + 1 + j)
      have L1 := (lf_lt s (a + 1) j.toNat).1
      have L2 := lf_small s (a + 1) j.toNat (by omega)
      have f1 := frz HJ.out.2.2.2.2 1
      have f2 := frz HJ.out.2.2.2.2 2
      obtain ⟨m, rfl⟩ : ∃ m, gk = m + 1 := ⟨gk - 1, by have := HJ.out.2.1; omega⟩
      have e1 : a + 1 + j + 1 = a + 1 + (j + 1) := by omega
      have E1 := Aside.mk e1
      clear e1
      go_wp2
      go_region
      have hb1 := set_blk HJ.out.2.2.2.2 2 (.int .i64 (lf s (a + 1) j.toNat * 256 + bt s (a + 1 + j)))
      have hg1 := set_grown wr g 2 (.int .i64 (lf s (a + 1) j.toNat * 256 + bt s (a + 1 + j)))
      have hG1 := Globs.grown HJ.out.2.2.2.1 hF hg1
      obtain ⟨w6, hw6⟩ : ∃ w6, w6 = wr.setCell ⟨g, 2, none⟩ (.int .i64 (lf s (a + 1) j.toNat * 256 + bt s (a + 1 + j))) := ⟨_, rfl⟩
      rw [← hw6] at hb1 hg1 hG1 ⊢
      clear hw6
      have B1 := Aside.mk hb1
      have G1 := Aside.mk (grown_trans HJ.out.2.2.1 hg1)
      have GG1 := Aside.mk hG1
      clear c0 c1 c2 f1 f2 hG1 hg1
      have c1 : w6.cell? ⟨g, 1, none⟩ = some (.int .i64 (a + 1 + j)) := cel hb1 1 rfl
      have f1 := frz hb1 1
      clear hb1
      go_wp2
      go_roundg m
      case measure => omega
      case rel =>
        refine ⟨j + 1, rfl, ⟨by omega, by have := HJ.out.2.1; omega, ?_, ?_, ?_⟩⟩
        · exact grown_trans G1.out (grown_drew (set_grown w6 g 1 (.int .i64 (a + 1 + j + 1))))
        · exact Globs.grown GG1.out hF (grown_drew (set_grown w6 g 1 (.int .i64 (a + 1 + j + 1))))
        · have h := set_blk B1.out 1 (.int .i64 (a + 1 + j + 1))
          have e2 : (j + 1).toNat = j.toNat + 1 := by omega
          have e3 : ((j.toNat : Nat) : Int) = j := by omega
          rw [e2]
          simp only [lf, e3]
          rw [← E1.out]
          exact h
    · have J1 := Aside.mk (show j = bt s a - 128 by have := HJ.out.2.1; omega)
      have k1 := HJ.out.2.2.2.1.cell 4 (by decide)
      have L1 := (lf_lt s (a + 1) j.toNat).1
      have h6 : decide (16777215 < lf s (a + 1) j.toNat) = false := by rw [J1.out]; simpa using h5
      go_wp2
      go_region_held3 (fun w' => w'.cell? ⟨g, 2, none⟩ = some (.int .i64 (lf s (a + 1) j.toNat)) ∧ w'.cell? ⟨4, 0, none⟩ = some (.iface 120 (.pointer (some (p 4))))) (first | exact ⟨c2, k1⟩ | exact ⟨e0, e1⟩ | exact ⟨cell_below c2 (below_new _ _), cell_below k1 (below_new _ _)⟩ | exact ⟨cell_below c2 (below_new_drew _ _), cell_below k1 (below_new_drew _ _)⟩)
        (first
          | (go_at_call 32; refine (first_no (lf s (a + 1) j.toNat) 120 (.pointer (some (p 4))) _ _ ?_ ?_).mono ?_; exact cell_new _ _ _ _ 0 rfl; exact cell_new _ _ _ _ 1 rfl; rintro e w7 ⟨rfl, hb⟩; have H7 := Aside.mk (below_then (below_then (below_drew wr) (below_new _ _)) hb); have e0 := cell_below c2 H7.out; have e1 := cell_below k1 H7.out; clear hb))
      clear e0 e1
      go_wp2
      go_ret
      refine ⟨rfl, grown_trans HJ.out.2.2.1 (grown_of_below H7.out _), ?_⟩
      have hb := blk_below HJ.out.2.2.2.2 H7.out
      rw [J1.out] at hb
      exact hb
set_option maxRecDepth 100000 in
set_option maxHeartbeats 2000000 in
theorem read_big (s : ByteArray) (a : Int) (g : Nat) (w : World) (p : Nat → Addr) (hG : Globs w p) (hF : GFree p g) (h0 : 0 ≤ a) (h1 : a < s.size) (h2 : 128 < bt s a) (h3 : bt s a ≤ 132) (h4 : a + 1 + (bt s a - 128) ≤ s.size) (h5 : 16777215 < lf s (a + 1) (bt s a - 128).toNat) (hs : s.size ≤ maxLen)
    (hb : w.heap[g]? = some (.cells #[.string s, .int .i64 a, .int .i64 0] 118 (0, 0))) :
    Calls Tryd.prog 45 #[.pointer (some ⟨g, 0, none⟩)] w fun e w' => e = .returned (.iface 78 (.agg #[.int .i64 (lf s (a + 1) (bt s a - 128).toNat), .iface 120 (.pointer (some (p 4)))])) ∧ w.grownBy w' (some g) := by
  have c0 := cel hb 0 rfl
  have c1 := cel hb 1 rfl
  have c2 := cel hb 2 rfl
  have k0 := hG.cell 5 (by decide)
  have k1 := hG.cell 6 (by decide)
  have BR := bt_range s a
  have hB := bt_at s a
  have HB := Aside.mk hb
  have HG := Aside.mk hG
  have HM := Aside.mk hs
  unfold maxLen at hs
  clear hb hG
  have q2 : (bt s a == 128) = false := by simp; omega
  go_enter Tryd.func45, Tryd.ntmps45
  go_wp2
  go_region_held3 (fun w' => w'.cell? ⟨g, 0, none⟩ = some (.string s) ∧ w'.cell? ⟨g, 1, none⟩ = some (.int .i64 a) ∧ w'.cell? ⟨g, 2, none⟩ = some (.int .i64 0) ∧ w'.cell? ⟨5, 0, none⟩ = some (.iface 120 (.pointer (some (p 5))))) (first | exact ⟨c0, c1, c2, k0⟩ | exact ⟨d0, d1, d2, dk⟩ | exact ⟨e0, e1, e2, ek⟩ | exact ⟨cell_below d0 (below_new _ _), cell_below d1 (below_new _ _), cell_below d2 (below_new _ _), cell_below dk (below_new _ _)⟩)
    (first
      | (go_at_call 46; refine (has_yes s a 1 _ h0 (by omega) HM.out (by omega)).mono ?_; rintro e w1 ⟨rfl, hb⟩; have H1 := Aside.mk (below_then (below_drew w) hb); have d0 := cell_below c0 H1.out; have d1 := cell_below c1 H1.out; have d2 := cell_below c2 H1.out; have dk := cell_below k0 H1.out; clear hb)
      | (go_at_call 32; refine (first_no 0 120 (.pointer (some (p 5))) _ _ ?_ ?_).mono ?_; exact cell_new _ _ _ _ 0 rfl; exact cell_new _ _ _ _ 1 rfl; rintro e w2 ⟨rfl, hb⟩; have H2 := Aside.mk (below_then (below_then H1.out (below_new _ _)) hb); have e0 := cell_below c0 H2.out; have e1 := cell_below c1 H2.out; have e2 := cell_below c2 H2.out; have ek := cell_below k0 H2.out; clear hb))
  have ef := cell_below k1 H2.out
  have hh := blk_below HB.out H2.out
  have f1 := frz hh 1
  have f2 := frz hh 2
  have HH := Aside.mk hh
  clear hh c0 c1 c2 k0 k1
  go_wp2
  go_quiet (fail)
  go_wp2
  obtain ⟨w3, hw3⟩ : ∃ w3, w3 = (w2.drewN nq).setCell ⟨g, 1, none⟩ (.int .i64 (a + 1)) := ⟨_, rfl⟩
  have HG3 := Aside.mk ((Globs.below HG.out (below_then H2.out (below_drewN _ nq))).grown hF (set_grown (w2.drewN nq) g 1 (.int .i64 (a + 1))))
  have H3 := Aside.mk (grown_trans (grown_of_below (below_then H2.out (below_drewN _ nq)) (some g)) (set_grown (w2.drewN nq) g 1 (.int .i64 (a + 1))))
  have hh3 := set_blk (w := w2.drewN nq) HH.out 1 (.int .i64 (a + 1))
  rw [← hw3] at HG3 H3 hh3 ⊢
  clear hw3
  have c0 := cel hh3 0 rfl
  have c1 := cel hh3 1 rfl
  have c2 := cel hh3 2 rfl
  have k0 := HG3.out.cell 5 (by decide)
  have HH3 := Aside.mk hh3
  clear hh3 f1 f2 e0 e1 e2 ek ef
  go_region_held3 (fun w' => w'.cell? ⟨g, 0, none⟩ = some (.string s) ∧ w'.cell? ⟨g, 1, none⟩ = some (.int .i64 (a + 1)) ∧ w'.cell? ⟨5, 0, none⟩ = some (.iface 120 (.pointer (some (p 5))))) (first | exact ⟨c0, c1, k0⟩ | exact ⟨d0, d1, dk⟩ | exact ⟨e0, e1, ek⟩ | exact ⟨cell_below d0 (below_new _ _), cell_below d1 (below_new _ _), cell_below dk (below_new _ _)⟩)
    (first
      | (go_at_call 46; refine (has_yes s (a + 1) (bt s a - 128) _ (by omega) (by omega) HM.out (by omega)).mono ?_; rintro e w4 ⟨rfl, hb⟩; have H4 := Aside.mk (below_then (below_drew w3) hb); have d0 := cell_below c0 H4.out; have d1 := cell_below c1 H4.out; have dk := cell_below k0 H4.out; clear hb)
      | (go_at_call 32; refine (first_no (bt s a - 128) 120 (.pointer (some (p 5))) _ _ ?_ ?_).mono ?_; exact cell_new _ _ _ _ 0 rfl; exact cell_new _ _ _ _ 1 rfl; rintro e w5 ⟨rfl, hb⟩; have H5 := Aside.mk (below_then (below_then H4.out (below_new _ _)) hb); have e0 := cell_below c0 H5.out; have e1 := cell_below c1 H5.out; have ek := cell_below k0 H5.out; clear hb))
  have HG5 := Aside.mk (HG3.out.below H5.out)
  have HH5 := Aside.mk (blk_below HH3.out H5.out)
  have H05 := Aside.mk (grown_trans H3.out (grown_of_below H5.out (some g)))
  clear c0 c1 c2 k0 e0 e1 ek q2 HG HG3 H3 H5 HB HH HH3
  go_wp2
  have hk : ((bt s a - 128).toNat : Int) = bt s a - 128 := by omega
  have HK := Aside.mk hk
  clear hk
  go_loopg [78] (bt s a - 128).toNat (fun gk v wr => ∃ j : Int, v = .int .i64 j ∧ Aside (0 ≤ j ∧ j + gk = bt s a - 128 ∧ w.grownBy wr (some g) ∧ Globs wr p ∧ wr.heap[g]? = some (.cells #[.string s, .int .i64 (a + 1 + j), .int .i64 (lf s (a + 1) j.toNat)] 118 (0, 0))))
  case atStart => exact ⟨0, rfl, ⟨Int.le_refl _, by have := HK.out; omega, H05.out, HG5.out, by have := HH5.out; simpa [lf] using this⟩⟩
  case round =>
    clear H05 HG5 HH5 hB
    obtain ⟨j, rfl, HJ⟩ := hrel
    have j0 : 0 ≤ j := HJ.out.1
    have c0 : wr.cell? ⟨g, 0, none⟩ = some (.string s) := cel HJ.out.2.2.2.2 0 rfl
    have c1 : wr.cell? ⟨g, 1, none⟩ = some (.int .i64 (a + 1 + j)) := cel HJ.out.2.2.2.2 1 rfl
    have c2 : wr.cell? ⟨g, 2, none⟩ = some (.int .i64 (lf s (a + 1) j.toNat)) := cel HJ.out.2.2.2.2 2 rfl
    by_cases hj : j < bt s a - 128
    · have hB := bt_at s (a + 1 + j)
      have BR2 := bt_range s (a + 1 + j)
      have L1 := (lf_lt s (a + 1) j.toNat).1
      have L2 := lf_small s (a + 1) j.toNat (by omega)
      have f1 := frz HJ.out.2.2.2.2 1
      have f2 := frz HJ.out.2.2.2.2 2
      obtain ⟨m, rfl⟩ : ∃ m, gk = m + 1 := ⟨gk - 1, by have := HJ.out.2.1; omega⟩
      have e1 : a + 1 + j + 1 = a + 1 + (j + 1) := by omega
      have E1 := Aside.mk e1
      clear e1
      go_wp2
      go_region
      have hb1 := set_blk HJ.out.2.2.2.2 2 (.int .i64 (lf s (a + 1) j.toNat * 256 + bt s (a + 1 + j)))
      have hg1 := set_grown wr g 2 (.int .i64 (lf s (a + 1) j.toNat * 256 + bt s (a + 1 + j)))
      have hG1 := Globs.grown HJ.out.2.2.2.1 hF hg1
      obtain ⟨w6, hw6⟩ : ∃ w6, w6 = wr.setCell ⟨g, 2, none⟩ (.int .i64 (lf s (a + 1) j.toNat * 256 + bt s (a + 1 + j))) := ⟨_, rfl⟩
      rw [← hw6] at hb1 hg1 hG1 ⊢
      clear hw6
      have B1 := Aside.mk hb1
      have G1 := Aside.mk (grown_trans HJ.out.2.2.1 hg1)
      have GG1 := Aside.mk hG1
      clear c0 c1 c2 f1 f2 hG1 hg1
      have c1 : w6.cell? ⟨g, 1, none⟩ = some (.int .i64 (a + 1 + j)) := cel hb1 1 rfl
      have f1 := frz hb1 1
      clear hb1
      go_wp2
      go_roundg m
      case measure => omega
      case rel =>
        refine ⟨j + 1, rfl, ⟨by omega, by have := HJ.out.2.1; omega, ?_, ?_, ?_⟩⟩
        · exact grown_trans G1.out (grown_drew (set_grown w6 g 1 (.int .i64 (a + 1 + j + 1))))
        · exact Globs.grown GG1.out hF (grown_drew (set_grown w6 g 1 (.int .i64 (a + 1 + j + 1))))
        · have h := set_blk B1.out 1 (.int .i64 (a + 1 + j + 1))
          have e2 : (j + 1).toNat = j.toNat + 1 := by omega
          have e3 : ((j.toNat : Nat) : Int) = j := by omega
          rw [e2]
          simp only [lf, e3]
          rw [← E1.out]
          exact h
    · have J1 := Aside.mk (show j = bt s a - 128 by have := HJ.out.2.1; omega)
      have k1 := HJ.out.2.2.2.1.cell 4 (by decide)
      have L1 := (lf_lt s (a + 1) j.toNat).1
      have h6 : decide (16777215 < lf s (a + 1) j.toNat) = true := by rw [J1.out]; simpa using h5
      go_wp2
      go_region_held3 (fun w' => w'.cell? ⟨g, 2, none⟩ = some (.int .i64 (lf s (a + 1) j.toNat)) ∧ w'.cell? ⟨4, 0, none⟩ = some (.iface 120 (.pointer (some (p 4))))) (first | exact ⟨c2, k1⟩ | exact ⟨e0, e1⟩ | exact ⟨cell_below c2 (below_new _ _), cell_below k1 (below_new _ _)⟩ | exact ⟨cell_below c2 (below_new_drew _ _), cell_below k1 (below_new_drew _ _)⟩)
        (first
          | (go_at_call 32; refine (first_yes (lf s (a + 1) j.toNat) 120 (.pointer (some (p 4))) _ _ ?_ ?_).mono ?_; exact cell_new _ _ _ _ 0 rfl; exact cell_new _ _ _ _ 1 rfl; rintro e w7 ⟨rfl, hb⟩; have H7 := Aside.mk (below_then (below_then (below_drew wr) (below_new _ _)) hb); have e0 := cell_below c2 H7.out; have e1 := cell_below k1 H7.out; clear hb))
      clear e0 e1
      go_wp2
      go_ret
      refine ⟨by rw [← J1.out]; rfl, grown_trans HJ.out.2.2.1 (grown_of_below H7.out _)⟩
end Go.Proofs.YtglmnglaliljdaaDoor.Size
