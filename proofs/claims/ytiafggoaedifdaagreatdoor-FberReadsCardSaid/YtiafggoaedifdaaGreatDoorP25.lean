/- Several texts, one behind the other. size.(*reader).read: its loop. Conditions: the shape of memory that each theorem names. errors.As and errors.Is at an error type of the package Size: a struct of two cells (Go's text of both is walked). No conditions beyond the shape of memory that each theorem names. errors.Is at an error of the package Size that wraps a sentinel, against a sentinel: true just if it is that one (Go's text is walked). No conditions beyond the shape of memory that each theorem names. size.told: the number of an error. Conditions: the package's variables hold their sentinels. size.Decode: the length of some bytes, from a place on. Conditions: the place lies in the text, the package's variables hold their sentinels. size.encoded's inner function: a byte ahead of some. Conditions: the shape of memory that each theorem names. -/
import Derived.Test.YtiafggoaedifdaaGreatDoorP24
import Derived.Deep.LoopGhost
import Derived.BigRegion
import Derived.RegionTactic
import Derived.Test.YtiafggoaedifdaaGreatDoorProg
import Derived.WalkKit
import Derived.Below
import Derived.KernelRfl
import Derived.LaidEql
import Derived.Stop.Asserts
import Derived.RowKitTokens
import Derived.Outline
import Derived.Laws.Rows
import Derived.RangeFuncRecord
import Derived.Laws.Tables
import Derived.Test.YtiafggoaedifdaaGreatDoorP01
import Derived.Laws.AppendOwnNone
import Derived.RangeFuncBox
/- size.(*reader).read: its loop. Conditions: the shape of memory that each theorem names. -/
namespace Go.Proofs.YtiafggoaedifdaaGreatDoor.Size
open Go.RowKit
set_option linter.unusedVariables false
def lf (s : ByteArray) (a : Int) : Nat → Int
 | 0 => 0
 | k + 1 => lf s a k * 256 + bt s (a + k)
theorem lf_lt (s : ByteArray) (a : Int) (k : Nat) : 0 ≤ lf s a k ∧ lf s a k < 256 ^ k := by
 induction k with
 | zero => simp [lf]
 | succ k ih =>
  have h := bt_range s (a + k)
  obtain ⟨h1, h2⟩ := ih
  have e : (256 : Int) ^ (k + 1) = 256 ^ k * 256 := by rw [Int.pow_succ]
  rw [e]
  simp only [lf]
  constructor <;> omega
theorem lf_small (s : ByteArray) (a : Int) (k : Nat) (hk : k ≤ 3) : lf s a k ≤ 16777215 := by
 have h := (lf_lt s a k).2
 have : (256 : Int) ^ k ≤ 256 ^ 3 := by
  rcases (show k = 0 ∨ k = 1 ∨ k = 2 ∨ k = 3 by omega) with rfl | rfl | rfl | rfl <;> decide
 have e : (256 : Int) ^ 3 = 16777216 := by decide
 omega
set_option maxRecDepth 100000 in
set_option maxHeartbeats 2000000 in
theorem read_ok (s : ByteArray) (a : Int) (g : Nat) (w : World) (p : Nat → Addr) (hG : Globs w p) (hF : GFree p g) (h0 : 0 ≤ a) (h1 : a < s.size) (h2 : 128 < bt s a) (h3 : bt s a ≤ 132) (h4 : a + 1 + (bt s a - 128) ≤ s.size) (h5 : lf s (a + 1) (bt s a - 128).toNat ≤ 16777215) (hs : s.size ≤ maxLen)
  (hb : w.heap[g]? = some (.cells #[.string s, .int .i64 a, .int .i64 0] 237 (0, 0))) :
  Calls Tryz.prog 157 #[.pointer (some ⟨g, 0, none⟩)] w fun e w' => e = .returned .nilIface ∧ w.grownBy w' (some g) ∧ w'.heap[g]? = some (.cells #[.string s, .int .i64 (a + 1 + (bt s a - 128)), .int .i64 (lf s (a + 1) (bt s a - 128).toNat)] 237 (0, 0)) := by
 have c0 := cel hb 0 rfl
 have c1 := cel hb 1 rfl
 have c2 := cel hb 2 rfl
 have k0 := hG.cell 9 (by decide)
 have k1 := hG.cell 10 (by decide)
 have BR := bt_range s a
 have hB := bt_at s a
 have HB := Aside.mk hb
 have HG := Aside.mk hG
 have HM := Aside.mk hs
 unfold maxLen at hs
 clear hb hG
 have q2 : (bt s a == 128) = false := by simp; omega
 go_enter Tryz.func157, Tryz.ntmps157
 go_wp2
 go_region_held3 (fun w' => w'.cell? ⟨g, 0, none⟩ = some (.string s) ∧ w'.cell? ⟨g, 1, none⟩ = some (.int .i64 a) ∧ w'.cell? ⟨g, 2, none⟩ = some (.int .i64 0) ∧ w'.cell? ⟨9, 0, none⟩ = some (.iface 266 (.pointer (some (p 9))))) (first | exact ⟨c0, c1, c2, k0⟩ | exact ⟨d0, d1, d2, dk⟩ | exact ⟨e0, e1, e2, ek⟩ | exact ⟨cell_below d0 (below_new _ _), cell_below d1 (below_new _ _), cell_below d2 (below_new _ _), cell_below dk (below_new _ _)⟩)
  (first
   | (go_at_call 162; refine (has_yes s a 1 _ h0 (by omega) HM.out (by omega)).mono ?_; rintro e w1 ⟨rfl, hb⟩; have H1 := Aside.mk (below_then (below_drew w) hb); have d0 := cell_below c0 H1.out; have d1 := cell_below c1 H1.out; have d2 := cell_below c2 H1.out; have dk := cell_below k0 H1.out; clear hb)
   | (go_at_call 149; refine (first_no 0 266 (.pointer (some (p 9))) _ _ ?_ ?_).mono ?_; exact cell_new _ _ _ _ 0 rfl; exact cell_new _ _ _ _ 1 rfl; rintro e w2 ⟨rfl, hb⟩; have H2 := Aside.mk (below_then (below_then H1.out (below_new _ _)) hb); have e0 := cell_below c0 H2.out; have e1 := cell_below c1 H2.out; have e2 := cell_below c2 H2.out; have ek := cell_below k0 H2.out; clear hb))
 have ef := cell_below k1 H2.out
 have hh := blk_below HB.out H2.out
 have f1 := frz hh 1
 have f2 := frz hh 2
 have HH := Aside.mk hh
 clear hh c0 c1 c2 k0 k1
 go_wp2
 go_quiet (fail)
 go_wp2
 obtain ⟨w3, hw3⟩ : ∃ w3, w3 = (w2.drewN nq).setCell ⟨g, 1, none⟩ (.int .i64 (a + 1)) := ⟨_, rfl⟩
 have HG3 := Aside.mk ((Globs.below HG.out (below_then H2.out (below_drewN _ nq))).grown hF (set_grown (w2.drewN nq) g 1 (.int .i64 (a + 1))))
 have H3 := Aside.mk (grown_trans (grown_of_below (below_then H2.out (below_drewN _ nq)) (some g)) (set_grown (w2.drewN nq) g 1 (.int .i64 (a + 1))))
 have hh3 := set_blk (w := w2.drewN nq) HH.out 1 (.int .i64 (a + 1))
 rw [← hw3] at HG3 H3 hh3 ⊢
 clear hw3
 have c0 := cel hh3 0 rfl
 have c1 := cel hh3 1 rfl
 have c2 := cel hh3 2 rfl
 have k0 := HG3.out.cell 9 (by decide)
 have HH3 := Aside.mk hh3
 clear hh3 f1 f2 e0 e1 e2 ek ef
 go_region_held3 (fun w' => w'.cell? ⟨g, 0, none⟩ = some (.string s) ∧ w'.cell? ⟨g, 1, none⟩ = some (.int .i64 (a + 1)) ∧ w'.cell? ⟨9, 0, none⟩ = some (.iface 266 (.pointer (some (p 9))))) (first | exact ⟨c0, c1, k0⟩ | exact ⟨d0, d1, dk⟩ | exact ⟨e0, e1, ek⟩ | exact ⟨cell_below d0 (below_new _ _), cell_below d1 (below_new _ _), cell_below dk (below_new _ _)⟩)
  (first
   | (go_at_call 162; refine (has_yes s (a + 1) (bt s a - 128) _ (by omega) (by omega) HM.out (by omega)).mono ?_; rintro e w4 ⟨rfl, hb⟩; have H4 := Aside.mk (below_then (below_drew w3) hb); have d0 := cell_below c0 H4.out; have d1 := cell_below c1 H4.out; have dk := cell_below k0 H4.out; clear hb)
   | (go_at_call 149; refine (first_no (bt s a - 128) 266 (.pointer (some (p 9))) _ _ ?_ ?_).mono ?_; exact cell_new _ _ _ _ 0 rfl; exact cell_new _ _ _ _ 1 rfl; rintro e w5 ⟨rfl, hb⟩; have H5 := Aside.mk (below_then (below_then H4.out (below_new _ _)) hb); have e0 := cell_below c0 H5.out; have e1 := cell_below c1 H5.out; have ek := cell_below k0 H5.out; clear hb))
 have HG5 := Aside.mk (HG3.out.below H5.out)
 have HH5 := Aside.mk (blk_below HH3.out H5.out)
 have H05 := Aside.mk (grown_trans H3.out (grown_of_below H5.out (some g)))
 clear c0 c1 c2 k0 e0 e1 ek q2 HG HG3 H3 H5 HB HH HH3
 go_wp2
 have hk : ((bt s a - 128).toNat : Int) = bt s a - 128 := by omega
 have HK := Aside.mk hk
 clear hk
 go_loopg [78] (bt s a - 128).toNat (fun gk v wr => ∃ j : Int, v = .int .i64 j ∧ Aside (0 ≤ j ∧ j + gk = bt s a - 128 ∧ w.grownBy wr (some g) ∧ Globs wr p ∧ wr.heap[g]? = some (.cells #[.string s, .int .i64 (a + 1 + j), .int .i64 (lf s (a + 1) j.toNat)] 237 (0, 0))))
 case atStart => exact ⟨0, rfl, ⟨Int.le_refl _, by have := HK.out; omega, H05.out, HG5.out, by have := HH5.out; simpa [lf] using this⟩⟩
 case round =>
  clear H05 HG5 HH5 hB
  obtain ⟨j, rfl, HJ⟩ := hrel
  have j0 : 0 ≤ j := HJ.out.1
  have c0 : wr.cell? ⟨g, 0, none⟩ = some (.string s) := cel HJ.out.2.2.2.2 0 rfl
  have c1 : wr.cell? ⟨g, 1, none⟩ = some (.int .i64 (a + 1 + j)) := cel HJ.out.2.2.2.2 1 rfl
  have c2 : wr.cell? ⟨g, 2, none⟩ = some (.int .i64 (lf s (a + 1) j.toNat)) := cel HJ.out.2.2.2.2 2 rfl
  by_cases hj : j < bt s a - 128
  ·have hB := bt_at s (a + 1 + j)
   have BR2 := bt_range s (a + 1 + j)
   have L1 := (lf_lt s (a + 1) j.toNat).1
   have L2 := lf_small s (a + 1) j.toNat (by omega)
   have f1 := frz HJ.out.2.2.2.2 1
   have f2 := frz HJ.out.2.2.2.2 2
   obtain ⟨m, rfl⟩ : ∃ m, gk = m + 1 := ⟨gk - 1, by have := HJ.out.2.1; omega⟩
   have e1 : a + 1 + j + 1 = a + 1 + (j + 1) := by omega
   have E1 := Aside.mk e1
   clear e1
   go_wp2
   go_region
   have hb1 := set_blk HJ.out.2.2.2.2 2 (.int .i64 (lf s (a + 1) j.toNat * 256 + bt s (a + 1 + j)))
   have hg1 := set_grown wr g 2 (.int .i64 (lf s (a + 1) j.toNat * 256 + bt s (a + 1 + j)))
   have hG1 := Globs.grown HJ.out.2.2.2.1 hF hg1
   obtain ⟨w6, hw6⟩ : ∃ w6, w6 = wr.setCell ⟨g, 2, none⟩ (.int .i64 (lf s (a + 1) j.toNat * 256 + bt s (a + 1 + j))) := ⟨_, rfl⟩
   rw [← hw6] at hb1 hg1 hG1 ⊢
   clear hw6
   have B1 := Aside.mk hb1
   have G1 := Aside.mk (grown_trans HJ.out.2.2.1 hg1)
   have GG1 := Aside.mk hG1
   clear c0 c1 c2 f1 f2 hG1 hg1
   have c1 : w6.cell? ⟨g, 1, none⟩ = some (.int .i64 (a + 1 + j)) := cel hb1 1 rfl
   have f1 := frz hb1 1
   clear hb1
   go_wp2
   go_roundg m
   case measure => omega
   case rel =>
    refine ⟨j + 1, rfl, ⟨by omega, by have := HJ.out.2.1; omega, ?_, ?_, ?_⟩⟩
    ·exact grown_trans G1.out (grown_drew (set_grown w6 g 1 (.int .i64 (a + 1 + j + 1))))
    ·exact Globs.grown GG1.out hF (grown_drew (set_grown w6 g 1 (.int .i64 (a + 1 + j + 1))))
    ·have h := set_blk B1.out 1 (.int .i64 (a + 1 + j + 1))
     have e2 : (j + 1).toNat = j.toNat + 1 := by omega
     have e3 : ((j.toNat : Nat) : Int) = j := by omega
     rw [e2]
     simp only [lf, e3]
     rw [← E1.out]
     exact h
  ·have J1 := Aside.mk (show j = bt s a - 128 by have := HJ.out.2.1; omega)
   have k1 := HJ.out.2.2.2.1.cell 8 (by decide)
   have L1 := (lf_lt s (a + 1) j.toNat).1
   have h6 : decide (16777215 < lf s (a + 1) j.toNat) = false := by rw [J1.out]; simpa using h5
   go_wp2
   go_region_held3 (fun w' => w'.cell? ⟨g, 2, none⟩ = some (.int .i64 (lf s (a + 1) j.toNat)) ∧ w'.cell? ⟨8, 0, none⟩ = some (.iface 266 (.pointer (some (p 8))))) (first | exact ⟨c2, k1⟩ | exact ⟨e0, e1⟩ | exact ⟨cell_below c2 (below_new _ _), cell_below k1 (below_new _ _)⟩ | exact ⟨cell_below c2 (below_new_drew _ _), cell_below k1 (below_new_drew _ _)⟩)
    (first
     | (go_at_call 149; refine (first_no (lf s (a + 1) j.toNat) 266 (.pointer (some (p 8))) _ _ ?_ ?_).mono ?_; exact cell_new _ _ _ _ 0 rfl; exact cell_new _ _ _ _ 1 rfl; rintro e w7 ⟨rfl, hb⟩; have H7 := Aside.mk (below_then (below_then (below_drew wr) (below_new _ _)) hb); have e0 := cell_below c2 H7.out; have e1 := cell_below k1 H7.out; clear hb))
   clear e0 e1
   go_wp2
   go_ret
   refine ⟨rfl, grown_trans HJ.out.2.2.1 (grown_of_below H7.out _), ?_⟩
   have hb := blk_below HJ.out.2.2.2.2 H7.out
   rw [J1.out] at hb
   exact hb
set_option maxRecDepth 100000 in
set_option maxHeartbeats 2000000 in
theorem read_big (s : ByteArray) (a : Int) (g : Nat) (w : World) (p : Nat → Addr) (hG : Globs w p) (hF : GFree p g) (h0 : 0 ≤ a) (h1 : a < s.size) (h2 : 128 < bt s a) (h3 : bt s a ≤ 132) (h4 : a + 1 + (bt s a - 128) ≤ s.size) (h5 : 16777215 < lf s (a + 1) (bt s a - 128).toNat) (hs : s.size ≤ maxLen)
  (hb : w.heap[g]? = some (.cells #[.string s, .int .i64 a, .int .i64 0] 237 (0, 0))) :
  Calls Tryz.prog 157 #[.pointer (some ⟨g, 0, none⟩)] w fun e w' => e = .returned (.iface 222 (.agg #[.int .i64 (lf s (a + 1) (bt s a - 128).toNat), .iface 266 (.pointer (some (p 8)))])) ∧ w.grownBy w' (some g) := by
 have c0 := cel hb 0 rfl
 have c1 := cel hb 1 rfl
 have c2 := cel hb 2 rfl
 have k0 := hG.cell 9 (by decide)
 have k1 := hG.cell 10 (by decide)
 have BR := bt_range s a
 have hB := bt_at s a
 have HB := Aside.mk hb
 have HG := Aside.mk hG
 have HM := Aside.mk hs
 unfold maxLen at hs
 clear hb hG
 have q2 : (bt s a == 128) = false := by simp; omega
 go_enter Tryz.func157, Tryz.ntmps157
 go_wp2
 go_region_held3 (fun w' => w'.cell? ⟨g, 0, none⟩ = some (.string s) ∧ w'.cell? ⟨g, 1, none⟩ = some (.int .i64 a) ∧ w'.cell? ⟨g, 2, none⟩ = some (.int .i64 0) ∧ w'.cell? ⟨9, 0, none⟩ = some (.iface 266 (.pointer (some (p 9))))) (first | exact ⟨c0, c1, c2, k0⟩ | exact ⟨d0, d1, d2, dk⟩ | exact ⟨e0, e1, e2, ek⟩ | exact ⟨cell_below d0 (below_new _ _), cell_below d1 (below_new _ _), cell_below d2 (below_new _ _), cell_below dk (below_new _ _)⟩)
  (first
   | (go_at_call 162; refine (has_yes s a 1 _ h0 (by omega) HM.out (by omega)).mono ?_; rintro e w1 ⟨rfl, hb⟩; have H1 := Aside.mk (below_then (below_drew w) hb); have d0 := cell_below c0 H1.out; have d1 := cell_below c1 H1.out; have d2 := cell_below c2 H1.out; have dk := cell_below k0 H1.out; clear hb)
   | (go_at_call 149; refine (first_no 0 266 (.pointer (some (p 9))) _ _ ?_ ?_).mono ?_; exact cell_new _ _ _ _ 0 rfl; exact cell_new _ _ _ _ 1 rfl; rintro e w2 ⟨rfl, hb⟩; have H2 := Aside.mk (below_then (below_then H1.out (below_new _ _)) hb); have e0 := cell_below c0 H2.out; have e1 := cell_below c1 H2.out; have e2 := cell_below c2 H2.out; have ek := cell_below k0 H2.out; clear hb))
 have ef := cell_below k1 H2.out
 have hh := blk_below HB.out H2.out
 have f1 := frz hh 1
 have f2 := frz hh 2
 have HH := Aside.mk hh
 clear hh c0 c1 c2 k0 k1
 go_wp2
 go_quiet (fail)
 go_wp2
 obtain ⟨w3, hw3⟩ : ∃ w3, w3 = (w2.drewN nq).setCell ⟨g, 1, none⟩ (.int .i64 (a + 1)) := ⟨_, rfl⟩
 have HG3 := Aside.mk ((Globs.below HG.out (below_then H2.out (below_drewN _ nq))).grown hF (set_grown (w2.drewN nq) g 1 (.int .i64 (a + 1))))
 have H3 := Aside.mk (grown_trans (grown_of_below (below_then H2.out (below_drewN _ nq)) (some g)) (set_grown (w2.drewN nq) g 1 (.int .i64 (a + 1))))
 have hh3 := set_blk (w := w2.drewN nq) HH.out 1 (.int .i64 (a + 1))
 rw [← hw3] at HG3 H3 hh3 ⊢
 clear hw3
 have c0 := cel hh3 0 rfl
 have c1 := cel hh3 1 rfl
 have c2 := cel hh3 2 rfl
 have k0 := HG3.out.cell 9 (by decide)
 have HH3 := Aside.mk hh3
 clear hh3 f1 f2 e0 e1 e2 ek ef
 go_region_held3 (fun w' => w'.cell? ⟨g, 0, none⟩ = some (.string s) ∧ w'.cell? ⟨g, 1, none⟩ = some (.int .i64 (a + 1)) ∧ w'.cell? ⟨9, 0, none⟩ = some (.iface 266 (.pointer (some (p 9))))) (first | exact ⟨c0, c1, k0⟩ | exact ⟨d0, d1, dk⟩ | exact ⟨e0, e1, ek⟩ | exact ⟨cell_below d0 (below_new _ _), cell_below d1 (below_new _ _), cell_below dk (below_new _ _)⟩)
  (first
   | (go_at_call 162; refine (has_yes s (a + 1) (bt s a - 128) _ (by omega) (by omega) HM.out (by omega)).mono ?_; rintro e w4 ⟨rfl, hb⟩; have H4 := Aside.mk (below_then (below_drew w3) hb); have d0 := cell_below c0 H4.out; have d1 := cell_below c1 H4.out; have dk := cell_below k0 H4.out; clear hb)
   | (go_at_call 149; refine (first_no (bt s a - 128) 266 (.pointer (some (p 9))) _ _ ?_ ?_).mono ?_; exact cell_new _ _ _ _ 0 rfl; exact cell_new _ _ _ _ 1 rfl; rintro e w5 ⟨rfl, hb⟩; have H5 := Aside.mk (below_then (below_then H4.out (below_new _ _)) hb); have e0 := cell_below c0 H5.out; have e1 := cell_below c1 H5.out; have ek := cell_below k0 H5.out; clear hb))
 have HG5 := Aside.mk (HG3.out.below H5.out)
 have HH5 := Aside.mk (blk_below HH3.out H5.out)
 have H05 := Aside.mk (grown_trans H3.out (grown_of_below H5.out (some g)))
 clear c0 c1 c2 k0 e0 e1 ek q2 HG HG3 H3 H5 HB HH HH3
 go_wp2
 have hk : ((bt s a - 128).toNat : Int) = bt s a - 128 := by omega
 have HK := Aside.mk hk
 clear hk
 go_loopg [78] (bt s a - 128).toNat (fun gk v wr => ∃ j : Int, v = .int .i64 j ∧ Aside (0 ≤ j ∧ j + gk = bt s a - 128 ∧ w.grownBy wr (some g) ∧ Globs wr p ∧ wr.heap[g]? = some (.cells #[.string s, .int .i64 (a + 1 + j), .int .i64 (lf s (a + 1) j.toNat)] 237 (0, 0))))
 case atStart => exact ⟨0, rfl, ⟨Int.le_refl _, by have := HK.out; omega, H05.out, HG5.out, by have := HH5.out; simpa [lf] using this⟩⟩
 case round =>
  clear H05 HG5 HH5 hB
  obtain ⟨j, rfl, HJ⟩ := hrel
  have j0 : 0 ≤ j := HJ.out.1
  have c0 : wr.cell? ⟨g, 0, none⟩ = some (.string s) := cel HJ.out.2.2.2.2 0 rfl
  have c1 : wr.cell? ⟨g, 1, none⟩ = some (.int .i64 (a + 1 + j)) := cel HJ.out.2.2.2.2 1 rfl
  have c2 : wr.cell? ⟨g, 2, none⟩ = some (.int .i64 (lf s (a + 1) j.toNat)) := cel HJ.out.2.2.2.2 2 rfl
  by_cases hj : j < bt s a - 128
  ·have hB := bt_at s (a + 1 + j)
   have BR2 := bt_range s (a + 1 + j)
   have L1 := (lf_lt s (a + 1) j.toNat).1
   have L2 := lf_small s (a + 1) j.toNat (by omega)
   have f1 := frz HJ.out.2.2.2.2 1
   have f2 := frz HJ.out.2.2.2.2 2
   obtain ⟨m, rfl⟩ : ∃ m, gk = m + 1 := ⟨gk - 1, by have := HJ.out.2.1; omega⟩
   have e1 : a + 1 + j + 1 = a + 1 + (j + 1) := by omega
   have E1 := Aside.mk e1
   clear e1
   go_wp2
   go_region
   have hb1 := set_blk HJ.out.2.2.2.2 2 (.int .i64 (lf s (a + 1) j.toNat * 256 + bt s (a + 1 + j)))
   have hg1 := set_grown wr g 2 (.int .i64 (lf s (a + 1) j.toNat * 256 + bt s (a + 1 + j)))
   have hG1 := Globs.grown HJ.out.2.2.2.1 hF hg1
   obtain ⟨w6, hw6⟩ : ∃ w6, w6 = wr.setCell ⟨g, 2, none⟩ (.int .i64 (lf s (a + 1) j.toNat * 256 + bt s (a + 1 + j))) := ⟨_, rfl⟩
   rw [← hw6] at hb1 hg1 hG1 ⊢
   clear hw6
   have B1 := Aside.mk hb1
   have G1 := Aside.mk (grown_trans HJ.out.2.2.1 hg1)
   have GG1 := Aside.mk hG1
   clear c0 c1 c2 f1 f2 hG1 hg1
   have c1 : w6.cell? ⟨g, 1, none⟩ = some (.int .i64 (a + 1 + j)) := cel hb1 1 rfl
   have f1 := frz hb1 1
   clear hb1
   go_wp2
   go_roundg m
   case measure => omega
   case rel =>
    refine ⟨j + 1, rfl, ⟨by omega, by have := HJ.out.2.1; omega, ?_, ?_, ?_⟩⟩
    ·exact grown_trans G1.out (grown_drew (set_grown w6 g 1 (.int .i64 (a + 1 + j + 1))))
    ·exact Globs.grown GG1.out hF (grown_drew (set_grown w6 g 1 (.int .i64 (a + 1 + j + 1))))
    ·have h := set_blk B1.out 1 (.int .i64 (a + 1 + j + 1))
     have e2 : (j + 1).toNat = j.toNat + 1 := by omega
     have e3 : ((j.toNat : Nat) : Int) = j := by omega
     rw [e2]
     simp only [lf, e3]
     rw [← E1.out]
     exact h
  ·have J1 := Aside.mk (show j = bt s a - 128 by have := HJ.out.2.1; omega)
   have k1 := HJ.out.2.2.2.1.cell 8 (by decide)
   have L1 := (lf_lt s (a + 1) j.toNat).1
   have h6 : decide (16777215 < lf s (a + 1) j.toNat) = true := by rw [J1.out]; simpa using h5
   go_wp2
   go_region_held3 (fun w' => w'.cell? ⟨g, 2, none⟩ = some (.int .i64 (lf s (a + 1) j.toNat)) ∧ w'.cell? ⟨8, 0, none⟩ = some (.iface 266 (.pointer (some (p 8))))) (first | exact ⟨c2, k1⟩ | exact ⟨e0, e1⟩ | exact ⟨cell_below c2 (below_new _ _), cell_below k1 (below_new _ _)⟩ | exact ⟨cell_below c2 (below_new_drew _ _), cell_below k1 (below_new_drew _ _)⟩)
    (first
     | (go_at_call 149; refine (first_yes (lf s (a + 1) j.toNat) 266 (.pointer (some (p 8))) _ _ ?_ ?_).mono ?_; exact cell_new _ _ _ _ 0 rfl; exact cell_new _ _ _ _ 1 rfl; rintro e w7 ⟨rfl, hb⟩; have H7 := Aside.mk (below_then (below_then (below_drew wr) (below_new _ _)) hb); have e0 := cell_below c2 H7.out; have e1 := cell_below k1 H7.out; clear hb))
   clear e0 e1
   go_wp2
   go_ret
   refine ⟨by rw [← J1.out]; rfl, grown_trans HJ.out.2.2.1 (grown_of_below H7.out _)⟩
end Go.Proofs.YtiafggoaedifdaaGreatDoor.Size
/- errors.As and errors.Is at an error type of the package Size: a struct of two cells (Go's text of both is walked). No conditions beyond the shape of memory that each theorem names. -/
namespace Go.Proofs.YtiafggoaedifdaaGreatDoor.AsSize
open Go.RowKit Go.Extern.Stop Go.Stop Go.Extern
theorem rlm (z : Sem Value) (f : TypeId → Addr → Nat → Nat → Sem Value) (v : Value) :
  ReflectliteValue.method z f #[v] = (do match ← ReflectliteValue.parts v with | none => z | some (t, a, fl) => f t a fl (fl % 32)) := rfl
theorem rls (v x : Value) : ReflectliteValue.set #[v, x] = (do
  let (some (dst, a, fl), some (src, b, _)) := (← ReflectliteValue.parts v, ← ReflectliteValue.parts x)
   | unsupported (.noEntry "extern/(internal/reflectlite.Value).Set.zeroValue")
  if fl / ReflectliteValue.flagAddr % 2 == 0 then unsupported (.noEntry "extern/(internal/reflectlite.Value).Set.unaddressable")
  let val ← loadVar src b
  if ← Rtype.directlyAssignable dst src then storeVar dst a val
  else if ← Rtype.implements dst src then
   if (← Rtype.kind src) == 20 then
    match val with
    | .nilIface => unsupported (.noEntry "extern/reflectlite: a nil value of one interface type handed on as a value of another")
    | _ => storeVar dst a val
   else storeVar dst a (.iface src val)
  else panicString ("reflectlite.Set: value of type " ++ (← Rtype.spelt src) ++ " is not assignable to type " ++ (← Rtype.spelt dst))
  pure (.tuple #[])) := rfl
theorem below_setRow {B g : Nat} {w w' : World} (h : Below B w w') (hB : B ≤ g) (cs : Array Value) : Below B w (w'.setRow g cs) :=
 h.trans ⟨rfl, rfl, rfl, by simp [World.setRow], fun k hk => by simp only [World.setRow, Array.getElem?_modify]; rw [if_neg (by omega)]⟩
theorem valueOfP (t : Addr) (w : World) : (ReflectliteValue.unpack (.iface 223 (.pointer (some t)))).run Tryz.prog w
  = .ok (.agg #[.pointer (some ⟨16, 223, none⟩), .pointer (some ⟨w.heap.size, 0, none⟩), .int .u64 150]) (w.alloc (.cells #[.pointer (some t)] 223)) := by kernel_rfl
theorem typeP (a : Addr) (w : World) : (ReflectliteValue.methodAny (ReflectliteValue.valueError "reflectlite.Value.Type" 0) (fun t _ _ _ => ReflectliteType.toType t) #[.agg #[.pointer (some ⟨16, 223, none⟩), .pointer (some a), .int .u64 150]]).run Tryz.prog w
  = .ok (.iface 178 (.agg #[.pointer (some ⟨16, 223, none⟩)])) w := by kernel_rfl
theorem elemP (w : World) : (ReflectliteType.method ReflectliteType.elem #[.agg #[.pointer (some ⟨16, 223, none⟩)]]).run Tryz.prog w = .ok (.iface 178 (.agg #[.pointer (some ⟨16, 222, none⟩)])) w := by kernel_rfl
theorem kindP (w : World) : ((ReflectliteType.abiMethod fun t => (fun a : Nat => Value.int IntKind.u8 (a : Int)) <$> Rtype.kind t) #[.pointer (some ⟨16, 223, none⟩)]).run Tryz.prog w = .ok (.int .u8 22) w := by kernel_rfl
theorem kindW (w : World) : ((ReflectliteType.abiMethod fun t => (fun a : Nat => Value.int IntKind.u8 (a : Int)) <$> Rtype.kind t) #[.pointer (some ⟨16, 222, none⟩)]).run Tryz.prog w = .ok (.int .u8 25) w := by kernel_rfl
theorem implementsW (w : World) : (ReflectliteType.relation "Implements" ReflectliteType.implements_ #[.agg #[.pointer (some ⟨16, 222, none⟩)], .iface 178 (.agg #[.pointer (some ⟨16, 61, none⟩)])]).run Tryz.prog w = .ok (.bool true) w := by kernel_rfl
theorem typeOfW (v : Value) (w : World) : (ReflectliteType.typeOf #[.iface 222 v]).run Tryz.prog w = .ok (.iface 178 (.agg #[.pointer (some ⟨16, 222, none⟩)])) w := by kernel_rfl
theorem assignW (w : World) : (ReflectliteType.relation "AssignableTo" ReflectliteType.assignableTo #[.agg #[.pointer (some ⟨16, 222, none⟩)], .iface 178 (.agg #[.pointer (some ⟨16, 222, none⟩)])]).run Tryz.prog w = .ok (.bool true) w := by kernel_rfl
theorem valueOfW (x y : Value) (w : World) : (ReflectliteValue.unpack (.iface 222 (.agg #[x, y]))).run Tryz.prog w
  = .ok (.agg #[.pointer (some ⟨16, 222, none⟩), .pointer (some ⟨w.heap.size, 0, none⟩), .int .u64 153]) (w.alloc (.cells #[x, y] 222)) := by kernel_rfl
theorem methodKind (h : Value) (w : World) : (Go.method 396 178 (.agg #[h]) "Kind").run Tryz.prog w = .ok (192, h) w := by kernel_rfl
theorem methodElem (h : Value) (w : World) : (Go.method 396 178 (.agg #[h]) "Elem").run Tryz.prog w = .ok (209, .agg #[h]) w := by kernel_rfl
theorem methodImplements (h : Value) (w : World) : (Go.method 396 178 (.agg #[h]) "Implements").run Tryz.prog w = .ok (210, .agg #[h]) w := by kernel_rfl
theorem methodAssignableTo (h : Value) (w : World) : (Go.method 396 178 (.agg #[h]) "AssignableTo").run Tryz.prog w = .ok (207, .agg #[h]) w := by kernel_rfl
theorem parts (a : Addr) (w : World) : (ReflectliteValue.parts (.agg #[.pointer (some ⟨16, 223, none⟩), .pointer (some a), .int .u64 150])).run Tryz.prog w = .ok (some (223, a, 150)) w := by kernel_rfl
theorem partsWa (a : Addr) (w : World) : (ReflectliteValue.parts (.agg #[.pointer (some ⟨16, 222, none⟩), .pointer (some a), .int .u64 409])).run Tryz.prog w = .ok (some (222, a, 409)) w := by kernel_rfl
theorem partsW (a : Addr) (w : World) : (ReflectliteValue.parts (.agg #[.pointer (some ⟨16, 222, none⟩), .pointer (some a), .int .u64 153])).run Tryz.prog w = .ok (some (222, a, 153)) w := by kernel_rfl
theorem elemOf (w : World) : (Rtype.elem? 223).run Tryz.prog w = .ok (some 222) w := by kernel_rfl
theorem mkW (p : Addr) (w : World) : (ReflectliteValue.mk 222 p ReflectliteValue.flagAddr).run Tryz.prog w = .ok (.agg #[.pointer (some ⟨16, 222, none⟩), .pointer (some p), .int .u64 409]) w := by kernel_rfl
theorem isNil (a p : Addr) (W : World) (ha : W.cell? a = some (.pointer (some p))) :
  (ReflectliteValue.method (ReflectliteValue.valueError "reflectlite.Value.IsNil" 0) ReflectliteValue.isNil #[.agg #[.pointer (some ⟨16, 223, none⟩), .pointer (some a), .int .u64 150]]).run Tryz.prog W = .ok (.bool false) W := by
 rw [rlm]
 simp only [Sem.run_bind, parts, Result.andThen]
 simp [ReflectliteValue.isNil, loadVar, isAgg, underlying, Tryz.underlying223, ha, Result.andThen]
theorem elemV (a p : Addr) (W : World) (ha : W.cell? a = some (.pointer (some p))) :
  (ReflectliteValue.method (ReflectliteValue.valueError "reflectlite.Value.Elem" 0) ReflectliteValue.elem #[.agg #[.pointer (some ⟨16, 223, none⟩), .pointer (some a), .int .u64 150]]).run Tryz.prog W
   = .ok (.agg #[.pointer (some ⟨16, 222, none⟩), .pointer (some p), .int .u64 409]) W := by
 rw [rlm]
 simp only [Sem.run_bind, parts, Result.andThen]
 simp [ReflectliteValue.elem, loadVar, isAgg, underlying, Tryz.underlying223, ha, Result.andThen, elemOf, mkW]
theorem direct (w : World) : (Rtype.directlyAssignable 222 222).run Tryz.prog w = .ok true w := by kernel_rfl
theorem setW (g b : Nat) (old0 old1 x y : Value) (fr : Nat × Nat) (W : World) (hx : x.oneCell' = true) (hy : y.oneCell' = true) (hb : W.heap[b]? = some (.cells #[x, y] 222 fr)) (ht : W.heap[g]? = some (.cells #[old0, old1] 222 (0, 0))) :
  (ReflectliteValue.set #[.agg #[.pointer (some ⟨16, 222, none⟩), .pointer (some ⟨g, 0, none⟩), .int .u64 409], .agg #[.pointer (some ⟨16, 222, none⟩), .pointer (some ⟨b, 0, none⟩), .int .u64 153]]).run Tryz.prog W
   = .ok (.tuple #[]) (W.setRow g #[x, y]) := by
 have hl := run_loadVar_row (P := Tryz.prog) W b 222 222 #[x, y] fr _ hb Tryz.underlying222 rfl (by kernel_rfl)
 have hs := run_storeVar_row (P := Tryz.prog) W g 222 222 #[old0, old1] #[x, y] ht (by kernel_rfl) rfl (by simp [hx, hy])
 rw [rls]
 simp only [Sem.run_bind, partsWa, partsW, Result.andThen]
 simp [ReflectliteValue.flagAddr, hl, hs, Result.andThen, direct]
set_option maxHeartbeats 4000000 in
set_option maxRecDepth 100000 in
theorem as_hit (g : Nat) (old0 old1 x y : Value) (w : World) (hx : x.oneCell' = true) (hy : y.oneCell' = true) (hg : w.cell? ⟨4, 0, none⟩ = some (.iface 178 (.agg #[.pointer (some ⟨16, 61, none⟩)])))
  (ht : w.heap[g]? = some (.cells #[old0, old1] 222 (0, 0))) :
  Calls Tryz.prog 62 #[.iface 222 (.agg #[x, y]), .iface 223 (.pointer (some ⟨g, 0, none⟩))] w fun ev w' => ev = .returned (.bool true) ∧ Below g w w' ∧ w'.heap[g]? = some (.cells #[x, y] 222 (0, 0)) := by
 have h6 := @run_callFunc_extern Tryz.prog 89 _ (fun args => ReflectliteValue.unpack (args.getD 0 (.tuple #[]))) Tryz.func89 (by kernel_rfl) (by kernel_rfl) (by kernel_rfl) (by kernel_rfl)
 have h7 := @run_callFunc_extern Tryz.prog 90 _ (ReflectliteValue.methodAny (ReflectliteValue.valueError "reflectlite.Value.Type" 0) (fun t _ _ _ => ReflectliteType.toType t)) Tryz.func90 (by kernel_rfl) (by kernel_rfl) (by kernel_rfl) (by kernel_rfl)
 have h8 := @run_callFunc_extern Tryz.prog 91 _ (ReflectliteValue.method (ReflectliteValue.valueError "reflectlite.Value.IsNil" 0) ReflectliteValue.isNil) Tryz.func91 (by kernel_rfl) (by kernel_rfl) (by kernel_rfl) (by kernel_rfl)
 have h27 := @run_callFunc_extern Tryz.prog 192 _ (ReflectliteType.abiMethod fun t => do pure (.int .u8 (← Rtype.kind t))) Tryz.func192 (by kernel_rfl) (by kernel_rfl) (by kernel_rfl) (by kernel_rfl)
 have h37 := @run_callFunc_extern Tryz.prog 209 _ (ReflectliteType.method ReflectliteType.elem) Tryz.func209 (by kernel_rfl) (by kernel_rfl) (by kernel_rfl) (by kernel_rfl)
 have h38 := @run_callFunc_extern Tryz.prog 210 _ (ReflectliteType.relation "Implements" ReflectliteType.implements_) Tryz.func210 (by kernel_rfl) (by kernel_rfl) (by kernel_rfl) (by kernel_rfl)
 have h10 := @run_callFunc_extern Tryz.prog 87 _ ReflectliteType.typeOf Tryz.func87 (by kernel_rfl) (by kernel_rfl) (by kernel_rfl) (by kernel_rfl)
 have h35 := @run_callFunc_extern Tryz.prog 207 _ (ReflectliteType.relation "AssignableTo" ReflectliteType.assignableTo) Tryz.func207 (by kernel_rfl) (by kernel_rfl) (by kernel_rfl) (by kernel_rfl)
 have h11 := @run_callFunc_extern Tryz.prog 119 _ (ReflectliteValue.method (ReflectliteValue.valueError "reflectlite.Value.Elem" 0) ReflectliteValue.elem) Tryz.func119 (by kernel_rfl) (by kernel_rfl) (by kernel_rfl) (by kernel_rfl)
 have h12 := @run_callFunc_extern Tryz.prog 120 _ ReflectliteValue.set Tryz.func120 (by kernel_rfl) (by kernel_rfl) (by kernel_rfl) (by kernel_rfl)
 have tO := typeOfW
 have mA := methodAssignableTo
 have a25 := assignW
 have v25 := valueOfW
 have f6 := valueOfP
 have f7 := typeP
 have mK := methodKind
 have mE := methodElem
 have mI := methodImplements
 have k27 := kindP
 have k25 := kindW
 have e27 := elemP
 have i25 := implementsW
 have hlt : g < w.heap.size := by
  rcases Nat.lt_or_ge g w.heap.size with h | h
  ·exact h
  ·simp [Array.getElem?_eq_none h] at ht
 have hgg : 4 < w.heap.size := by
  rcases Nat.lt_or_ge 4 w.heap.size with h | h
  ·exact h
  ·simp [World.cell?, Array.getElem?_eq_none h] at hg
 have hg2 : ((w.alloc (.cells #[.pointer (some ⟨g, 0, none⟩)] 223)).alloc (.cells #[.pointer (some ⟨16, 223, none⟩), .pointer (some ⟨w.heap.size, 0, none⟩), .int .u64 150] 136)).cell? ⟨4, 0, none⟩ = some (.iface 178 (.agg #[.pointer (some ⟨16, 61, none⟩)])) := by
  rw [World.cell?_alloc_lt _ _ ⟨4, 0, none⟩ (by simp; omega), World.cell?_alloc_lt _ _ ⟨4, 0, none⟩ hgg]; exact hg
 have n8 := isNil ⟨w.heap.size, 0, none⟩ ⟨g, 0, none⟩ ((w.alloc (.cells #[.pointer (some ⟨g, 0, none⟩)] 223)).alloc (.cells #[.pointer (some ⟨16, 223, none⟩), .pointer (some ⟨w.heap.size, 0, none⟩), .int .u64 150] 136)) (by simp)
 have el := elemV ⟨w.heap.size, 0, none⟩ ⟨g, 0, none⟩ (((w.alloc (.cells #[.pointer (some ⟨g, 0, none⟩)] 223)).alloc (.cells #[.pointer (some ⟨16, 223, none⟩), .pointer (some ⟨w.heap.size, 0, none⟩), .int .u64 150] 136)).alloc (.cells #[.pointer (some ⟨16, 223, none⟩), .pointer (some ⟨w.heap.size, 0, none⟩), .int .u64 150] 136)) (by rw [World.cell?_alloc_lt _ _ ⟨w.heap.size, 0, none⟩ (by simp; omega)]; simp)
 have st := setW g (w.heap.size + 1 + 1 + 1) old0 old1 x y (0, 0) ((((w.alloc (.cells #[.pointer (some ⟨g, 0, none⟩)] 223)).alloc (.cells #[.pointer (some ⟨16, 223, none⟩), .pointer (some ⟨w.heap.size, 0, none⟩), .int .u64 150] 136)).alloc (.cells #[.pointer (some ⟨16, 223, none⟩), .pointer (some ⟨w.heap.size, 0, none⟩), .int .u64 150] 136)).alloc (.cells #[x, y] 222)) hx hy (by have := World.alloc_heap_new (((w.alloc (.cells #[.pointer (some ⟨g, 0, none⟩)] 223)).alloc (.cells #[.pointer (some ⟨16, 223, none⟩), .pointer (some ⟨w.heap.size, 0, none⟩), .int .u64 150] 136)).alloc (.cells #[.pointer (some ⟨16, 223, none⟩), .pointer (some ⟨w.heap.size, 0, none⟩), .int .u64 150] 136)) (.cells #[x, y] 222); simpa using this) (by rw [Below.heap_alloc _ _ _ (by simp; omega), Below.heap_alloc _ _ _ (by simp; omega), Below.heap_alloc _ _ _ (by simp; omega), Below.heap_alloc _ _ _ hlt]; exact ht)
 go_enter Tryz.func62, Tryz.ntmps62
 go_wp2
 refine wp_loop_rounds 1 ?_
 rw [rounds_succ]
 go_wp2
 go_ret
 refine ⟨rfl, ?_, ?_⟩
 ·exact below_setRow ((((((Below.refl g w).alloc (by omega) _).alloc (by simp; omega) _).alloc (by simp; omega) _).alloc (by simp; omega) _)) (Nat.le_refl _) _
 ·refine setRow_heap _ g #[old0, old1] _ _ _ ?_
  rw [Below.heap_alloc _ _ _ (by simp; omega), Below.heap_alloc _ _ _ (by simp; omega), Below.heap_alloc _ _ _ (by simp; omega), Below.heap_alloc _ _ _ hlt]; exact ht
end Go.Proofs.YtiafggoaedifdaaGreatDoor.AsSize
/- errors.Is at an error of the package Size that wraps a sentinel, against a sentinel: true just if it is that one (Go's text is walked). No conditions beyond the shape of memory that each theorem names. -/
namespace Go.Proofs.YtiafggoaedifdaaGreatDoor.IsSize
open Go.RowKit Go.Extern.Stop Go.Stop Go.Extern
theorem isTypeOf (v : Value) (w : World) : (Extern.ReflectliteType.typeOf #[.iface 266 v]).run Tryz.prog w = .ok (.iface 178 (.agg #[.pointer (some ⟨16, 266, none⟩)])) w := by kernel_rfl
def cmpEntry : Array Value → Sem Value := Extern.ReflectliteType.method fun t => do Rtype.noPackHeld "Comparable" t; pure (.bool (← typeInfo t).comparable)
theorem isComparable (w : World) : (cmpEntry #[.agg #[.pointer (some ⟨16, 266, none⟩)]]).run Tryz.prog w = .ok (.bool true) w := by kernel_rfl
theorem isMethodComparable (v : Value) (w : World) : (Go.method 396 178 v "Comparable").run Tryz.prog w = .ok (208, v) w := by kernel_rfl
theorem isComp : (Tryz.prog.info? 266).map (·.comparable) = some true := by kernel_rfl
theorem isSize : (Tryz.prog.info? 285).map (·.size) = some 1 := by kernel_rfl
theorem noIsE (v : Value) (xT : TypeId) (w : World) : (Instr.typeAssert (.iface 266 v) xT 180 true).run Tryz.prog w = .ok (.tuple #[.nilIface, .bool false]) w := run_typeAssert_lacksB Tryz.underlying180 (by kernel_rfl) (by kernel_rfl) v xT w
theorem noUnwrapE (v : Value) (xT : TypeId) (w : World) : (Instr.typeAssert (.iface 266 v) xT 183 true).run Tryz.prog w = .ok (.tuple #[.nilIface, .bool false]) w := run_typeAssert_lacksB Tryz.underlying183 (by kernel_rfl) (by kernel_rfl) v xT w
theorem noUnwrapsE (v : Value) (xT : TypeId) (w : World) : (Instr.typeAssert (.iface 266 v) xT 185 true).run Tryz.prog w = .ok (.tuple #[.nilIface, .bool false]) w := run_typeAssert_lacksB Tryz.underlying185 (by kernel_rfl) (by kernel_rfl) v xT w
theorem noIsW (v : Value) (xT : TypeId) (w : World) : (Instr.typeAssert (.iface 222 v) xT 180 true).run Tryz.prog w = .ok (.tuple #[.nilIface, .bool false]) w := run_typeAssert_lacksB Tryz.underlying180 (by kernel_rfl) (by kernel_rfl) v xT w
theorem hasUnwrapW (v : Value) (xT : TypeId) (w : World) : (Instr.typeAssert (.iface 222 v) xT 183 true).run Tryz.prog w = .ok (.tuple #[.iface 222 v, .bool true]) w := run_typeAssert_hasB Tryz.underlying183 (by kernel_rfl) v xT w
theorem methodUnwrap (v : Value) (w : World) : (Go.method 396 222 v "Unwrap").run Tryz.prog w = .ok (218, v) w := by kernel_rfl
theorem unwrap (x y : Value) (w : World) : Calls Tryz.prog 218 #[.agg #[x, y]] w fun e w' => e = .returned y ∧ w.alloc (.cells #[x, y] 222) = w' := by
 go_enter Tryz.func218, Tryz.ntmps218
 go_wp2
 go_ret
 exact ⟨rfl, rfl⟩
set_option maxRecDepth 100000 in
set_option maxHeartbeats 4000000 in
theorem is_same (x : Value) (b : Addr) (w : World) :
  Calls Tryz.prog 61 #[.iface 222 (.agg #[x, .iface 266 (.pointer (some b))]), .iface 266 (.pointer (some b))] w fun e w' => e = .returned (.bool true) ∧ w.alloc (.cells #[x, .iface 266 (.pointer (some b))] 222) = w' := by
 obtain ⟨i, hi, hcmp⟩ := Option.map_eq_some_iff.1 isComp
 obtain ⟨j, hj, hjs⟩ := Option.map_eq_some_iff.1 isSize
 have h8 := @run_callFunc_extern Tryz.prog 87 _ Extern.ReflectliteType.typeOf Tryz.func87 (by kernel_rfl) (by kernel_rfl) (by kernel_rfl) (by kernel_rfl)
 have h32 := @run_callFunc_extern Tryz.prog 208 _ cmpEntry Tryz.func208 (by kernel_rfl) (by kernel_rfl) (by kernel_rfl) (by kernel_rfl)
 have tT := isTypeOf
 have cT := isComparable
 have mR := isMethodComparable
 have nE := noIsE
 have uE := noUnwrapE
 have vE := noUnwrapsE
 have nW := noIsW
 have uW := hasUnwrapW
 have mU := methodUnwrap
 have heq := run_eql_iface_ptr_same (P := Tryz.prog) (w.alloc (.cells #[x, .iface 266 (.pointer (some b))] 222)) b Tryz.underlying61 Tryz.underlying266 hi hcmp hj
 have hty := run_eql_iface_types (P := Tryz.prog) 222 266 (.agg #[x, .iface 266 (.pointer (some b))]) (.pointer (some b)) Tryz.underlying61 (by decide) w
 clear hi hcmp hj hjs
 go_enter Tryz.func61, Tryz.ntmps61
 go_wp2
 refine wp_loop_rounds 2 ?_
 rw [rounds_succ]
 go_wp2
 rw [rounds_succ]
 go_wp2
 go_ret
 exact ⟨rfl, rfl⟩
set_option maxRecDepth 100000 in
set_option maxHeartbeats 4000000 in
theorem is_other (x : Value) (a b : Addr) (ca cb : Array Value) (ta tb : TypeId) (w : World) (hne : a ≠ b) (ha : w.heap[a.block]? = some (.cells ca ta (0, 0))) (hb : w.heap[b.block]? = some (.cells cb tb (0, 0))) :
  Calls Tryz.prog 61 #[.iface 222 (.agg #[x, .iface 266 (.pointer (some a))]), .iface 266 (.pointer (some b))] w fun e w' => e = .returned (.bool false) ∧ w.alloc (.cells #[x, .iface 266 (.pointer (some a))] 222) = w' := by
 obtain ⟨i, hi, hcmp⟩ := Option.map_eq_some_iff.1 isComp
 obtain ⟨j, hj, hjs⟩ := Option.map_eq_some_iff.1 isSize
 have h8 := @run_callFunc_extern Tryz.prog 87 _ Extern.ReflectliteType.typeOf Tryz.func87 (by kernel_rfl) (by kernel_rfl) (by kernel_rfl) (by kernel_rfl)
 have h32 := @run_callFunc_extern Tryz.prog 208 _ cmpEntry Tryz.func208 (by kernel_rfl) (by kernel_rfl) (by kernel_rfl) (by kernel_rfl)
 have tT := isTypeOf
 have cT := isComparable
 have mR := isMethodComparable
 have nE := noIsE
 have uE := noUnwrapE
 have vE := noUnwrapsE
 have nW := noIsW
 have uW := hasUnwrapW
 have mU := methodUnwrap
 have heq := run_eql_iface_ptr_other (P := Tryz.prog) (w.alloc (.cells #[x, .iface 266 (.pointer (some a))] 222)) Tryz.underlying61 Tryz.underlying266 hi hcmp hj (by rw [hjs]; decide) hne
  (by rw [show (w.alloc (.cells #[x, .iface 266 (.pointer (some a))] 222)).heap[a.block]? = w.heap[a.block]? from by show (w.heap.push _)[a.block]? = _; rw [Array.getElem?_push, if_neg (by have := (Array.getElem?_eq_some_iff.1 ha).1; omega)]]; exact ha)
  (by rw [show (w.alloc (.cells #[x, .iface 266 (.pointer (some a))] 222)).heap[b.block]? = w.heap[b.block]? from by show (w.heap.push _)[b.block]? = _; rw [Array.getElem?_push, if_neg (by have := (Array.getElem?_eq_some_iff.1 hb).1; omega)]]; exact hb)
 have hty := run_eql_iface_types (P := Tryz.prog) 222 266 (.agg #[x, .iface 266 (.pointer (some a))]) (.pointer (some b)) Tryz.underlying61 (by decide) w
 clear hi hcmp hj hjs ha hb hne
 go_enter Tryz.func61, Tryz.ntmps61
 go_wp2
 refine wp_loop_rounds 2 ?_
 rw [rounds_succ]
 go_wp2
 rw [rounds_succ]
 go_wp2
 go_ret
 exact ⟨rfl, rfl⟩
end Go.Proofs.YtiafggoaedifdaaGreatDoor.IsSize
/- size.told: the number of an error. Conditions: the package's variables hold their sentinels. -/
namespace Go.Proofs.YtiafggoaedifdaaGreatDoor.ToldSize
open Go.RowKit
theorem is_yes (x : Value) (b : Addr) (w : World) :
  Calls Tryz.prog 61 #[.iface 222 (.agg #[x, .iface 266 (.pointer (some b))]), .iface 266 (.pointer (some b))] w fun e w' => e = .returned (.bool true) ∧ Below w.heap.size w w' :=
 (IsSize.is_same x b w).mono fun _ _ h => ⟨h.1, h.2 ▸ (Below.refl _ _).alloc (Nat.le_refl _) _⟩
theorem is_no (x : Value) {p : Nat → Addr} {w : World} (hG : Globs w p) (a b : Nat) (ha : a ∈ senNums) (hb : b ∈ senNums) (hne : a ≠ b) :
  Calls Tryz.prog 61 #[.iface 222 (.agg #[x, .iface 266 (.pointer (some (p a)))]), .iface 266 (.pointer (some (p b)))] w fun e w' => e = .returned (.bool false) ∧ Below w.heap.size w w' := by
 obtain ⟨ca, ta, h1⟩ := hG.blk a ha
 obtain ⟨cb, tb, h2⟩ := hG.blk b hb
 exact (IsSize.is_other x (p a) (p b) ca cb ta tb w (hG.inj a b ha hb hne) h1 h2).mono fun _ _ h => ⟨h.1, h.2 ▸ (Below.refl _ _).alloc (Nat.le_refl _) _⟩
theorem told_nil (w : World) : Calls Tryz.prog 137 #[.nilIface] w fun e w' => e = .returned (.int .i64 0) ∧ Below w.heap.size w w' := by
 go_enter Tryz.func137, Tryz.ntmps137
 go_wp2
 go_ret
 exact ⟨rfl, (Below.refl _ _).alloc (Nat.le_refl _) _⟩

set_option maxHeartbeats 1000000 in
theorem told_errShort (n : Int) (w : World) (p : Nat → Addr) (h : Globs w p) :
  Calls Tryz.prog 137 #[.iface 222 (.agg #[.int .i64 n, .iface 266 (.pointer (some (p 9)))])] w fun e w' => e = .returned (.int .i64 10) ∧ Below w.heap.size w w' := by
 go_enter Tryz.func137, Tryz.ntmps137
 go_wp2_with fail
 have h1 : Below w.heap.size w (w.alloc (.cells #[.int .i64 0, .nilIface] 222)) := (Below.refl _ _).alloc (Nat.le_refl _) _
 refine (AsSize.as_hit w.heap.size (.int .i64 0) .nilIface (.int .i64 n) (.iface 266 (.pointer (some (p 9)))) _ rfl rfl (h.below h1).et (World.alloc_heap_new w _)).mono ?_
 rintro e w0 ⟨rfl, hb, hc⟩
 have H0 := Aside.mk (h1.trans hb)
 have h0 := h.below H0.out
 clear h h1 hb hc
 have k0 := h0.cell 9 (by decide)
 go_wp2_with fail
 refine (is_yes _ _ _).mono ?_
 rintro e w1 ⟨rfl, hb⟩
 have H1 := Aside.mk (below_then H0.out hb)
 clear k0 hb
 go_wp2
 go_ret
 exact ⟨rfl, H1.out⟩

set_option maxHeartbeats 1000000 in
theorem told_errForm (n : Int) (w : World) (p : Nat → Addr) (h : Globs w p) :
  Calls Tryz.prog 137 #[.iface 222 (.agg #[.int .i64 n, .iface 266 (.pointer (some (p 10)))])] w fun e w' => e = .returned (.int .i64 11) ∧ Below w.heap.size w w' := by
 go_enter Tryz.func137, Tryz.ntmps137
 go_wp2_with fail
 have h1 : Below w.heap.size w (w.alloc (.cells #[.int .i64 0, .nilIface] 222)) := (Below.refl _ _).alloc (Nat.le_refl _) _
 refine (AsSize.as_hit w.heap.size (.int .i64 0) .nilIface (.int .i64 n) (.iface 266 (.pointer (some (p 10)))) _ rfl rfl (h.below h1).et (World.alloc_heap_new w _)).mono ?_
 rintro e w0 ⟨rfl, hb, hc⟩
 have H0 := Aside.mk (h1.trans hb)
 have h0 := h.below H0.out
 clear h h1 hb hc
 have k0 := h0.cell 9 (by decide)
 go_wp2_with fail
 refine (is_no _ h0 10 9 (by decide) (by decide) (by decide)).mono ?_
 rintro e w1 ⟨rfl, hb⟩
 have H1 := Aside.mk (below_then H0.out hb)
 have h1 := h0.below hb
 clear k0 hb H0 h0
 have k0 := h1.cell 10 (by decide)
 go_wp2_with fail
 refine (is_yes _ _ _).mono ?_
 rintro e w2 ⟨rfl, hb⟩
 have H2 := Aside.mk (below_then H1.out hb)
 clear k0 hb
 go_wp2
 go_ret
 exact ⟨rfl, H2.out⟩

set_option maxHeartbeats 1000000 in
theorem told_errSize (n : Int) (w : World) (p : Nat → Addr) (h : Globs w p) :
  Calls Tryz.prog 137 #[.iface 222 (.agg #[.int .i64 n, .iface 266 (.pointer (some (p 8)))])] w fun e w' => e = .returned (.int .i64 12) ∧ Below w.heap.size w w' := by
 go_enter Tryz.func137, Tryz.ntmps137
 go_wp2_with fail
 have h1 : Below w.heap.size w (w.alloc (.cells #[.int .i64 0, .nilIface] 222)) := (Below.refl _ _).alloc (Nat.le_refl _) _
 refine (AsSize.as_hit w.heap.size (.int .i64 0) .nilIface (.int .i64 n) (.iface 266 (.pointer (some (p 8)))) _ rfl rfl (h.below h1).et (World.alloc_heap_new w _)).mono ?_
 rintro e w0 ⟨rfl, hb, hc⟩
 have H0 := Aside.mk (h1.trans hb)
 have h0 := h.below H0.out
 clear h h1 hb hc
 have k0 := h0.cell 9 (by decide)
 go_wp2_with fail
 refine (is_no _ h0 8 9 (by decide) (by decide) (by decide)).mono ?_
 rintro e w1 ⟨rfl, hb⟩
 have H1 := Aside.mk (below_then H0.out hb)
 have h1 := h0.below hb
 clear k0 hb H0 h0
 have k0 := h1.cell 10 (by decide)
 go_wp2_with fail
 refine (is_no _ h1 8 10 (by decide) (by decide) (by decide)).mono ?_
 rintro e w2 ⟨rfl, hb⟩
 have H2 := Aside.mk (below_then H1.out hb)
 clear k0 hb
 go_wp2
 go_ret
 exact ⟨rfl, H2.out⟩
end Go.Proofs.YtiafggoaedifdaaGreatDoor.ToldSize
/- size.Decode: the length of some bytes, from a place on. Conditions: the place lies in the text, the package's variables hold their sentinels. -/
namespace Go.Proofs.YtiafggoaedifdaaGreatDoor.Size
open Go.RowKit
set_option linter.unusedVariables false
def dec (s : ByteArray) (a : Int) : Int × Int × Int :=
 if s.size ≤ a then (0, 0, 10) else
 if bt s a < 128 then (bt s a, a + 1, 0) else
 if bt s a = 128 ∨ 132 < bt s a then (0, 0, 11) else
 if s.size < a + 1 + (bt s a - 128) then (0, 0, 10) else
 if 16777215 < lf s (a + 1) (bt s a - 128).toNat then (0, 0, 12) else
 (lf s (a + 1) (bt s a - 128).toNat, a + 1 + (bt s a - 128), 0)

set_option maxHeartbeats 1000000 in
theorem fail_errShort (s : ByteArray) (a n : Int) (w : World) (p : Nat → Addr) (hG : Globs w p)
  (hr : Calls Tryz.prog 157 #[.pointer (some ⟨w.heap.size, 0, none⟩)] (w.alloc (.cells #[.string s, .int .i64 a, .int .i64 0] 237)) fun e w' => e = .returned (.iface 222 (.agg #[.int .i64 n, .iface 266 (.pointer (some (p 9)))])) ∧ (w.alloc (.cells #[.string s, .int .i64 a, .int .i64 0] 237)).grownBy w' (some w.heap.size)) :
  Calls Tryz.prog 147 #[.string s, .int .i64 a] w fun e w' => e = .returned (.tuple #[.int .i64 0, .int .i64 0, .int .i64 10]) ∧ Below w.heap.size w w' := by
 have h1 : Below w.heap.size w (w.alloc (.cells #[.string s, .int .i64 a, .int .i64 0] 237)) := below_new _ _
 have hF := hG.free (Nat.le_refl w.heap.size)
 go_enter Tryz.func147, Tryz.ntmps147
 go_wp2_with fail
 refine hr.mono ?_
 rintro e w1 ⟨rfl, hg⟩
 have H1 := Aside.mk (below_grown h1 hg (Nat.le_refl _))
 have HG1 := Aside.mk (hG.below H1.out)
 clear hr hG h1 hF hg
 go_wp2_with fail
 refine (ToldSize.told_errShort n _ p HG1.out).mono ?_
 rintro e w2 ⟨rfl, hb⟩
 have H2 := Aside.mk (below_then H1.out hb)
 clear hb
 go_wp2
 go_ret3
 exact ⟨rfl, H2.out⟩

set_option maxHeartbeats 1000000 in
theorem fail_errForm (s : ByteArray) (a n : Int) (w : World) (p : Nat → Addr) (hG : Globs w p)
  (hr : Calls Tryz.prog 157 #[.pointer (some ⟨w.heap.size, 0, none⟩)] (w.alloc (.cells #[.string s, .int .i64 a, .int .i64 0] 237)) fun e w' => e = .returned (.iface 222 (.agg #[.int .i64 n, .iface 266 (.pointer (some (p 10)))])) ∧ (w.alloc (.cells #[.string s, .int .i64 a, .int .i64 0] 237)).grownBy w' (some w.heap.size)) :
  Calls Tryz.prog 147 #[.string s, .int .i64 a] w fun e w' => e = .returned (.tuple #[.int .i64 0, .int .i64 0, .int .i64 11]) ∧ Below w.heap.size w w' := by
 have h1 : Below w.heap.size w (w.alloc (.cells #[.string s, .int .i64 a, .int .i64 0] 237)) := below_new _ _
 have hF := hG.free (Nat.le_refl w.heap.size)
 go_enter Tryz.func147, Tryz.ntmps147
 go_wp2_with fail
 refine hr.mono ?_
 rintro e w1 ⟨rfl, hg⟩
 have H1 := Aside.mk (below_grown h1 hg (Nat.le_refl _))
 have HG1 := Aside.mk (hG.below H1.out)
 clear hr hG h1 hF hg
 go_wp2_with fail
 refine (ToldSize.told_errForm n _ p HG1.out).mono ?_
 rintro e w2 ⟨rfl, hb⟩
 have H2 := Aside.mk (below_then H1.out hb)
 clear hb
 go_wp2
 go_ret3
 exact ⟨rfl, H2.out⟩

set_option maxHeartbeats 1000000 in
theorem fail_errSize (s : ByteArray) (a n : Int) (w : World) (p : Nat → Addr) (hG : Globs w p)
  (hr : Calls Tryz.prog 157 #[.pointer (some ⟨w.heap.size, 0, none⟩)] (w.alloc (.cells #[.string s, .int .i64 a, .int .i64 0] 237)) fun e w' => e = .returned (.iface 222 (.agg #[.int .i64 n, .iface 266 (.pointer (some (p 8)))])) ∧ (w.alloc (.cells #[.string s, .int .i64 a, .int .i64 0] 237)).grownBy w' (some w.heap.size)) :
  Calls Tryz.prog 147 #[.string s, .int .i64 a] w fun e w' => e = .returned (.tuple #[.int .i64 0, .int .i64 0, .int .i64 12]) ∧ Below w.heap.size w w' := by
 have h1 : Below w.heap.size w (w.alloc (.cells #[.string s, .int .i64 a, .int .i64 0] 237)) := below_new _ _
 have hF := hG.free (Nat.le_refl w.heap.size)
 go_enter Tryz.func147, Tryz.ntmps147
 go_wp2_with fail
 refine hr.mono ?_
 rintro e w1 ⟨rfl, hg⟩
 have H1 := Aside.mk (below_grown h1 hg (Nat.le_refl _))
 have HG1 := Aside.mk (hG.below H1.out)
 clear hr hG h1 hF hg
 go_wp2_with fail
 refine (ToldSize.told_errSize n _ p HG1.out).mono ?_
 rintro e w2 ⟨rfl, hb⟩
 have H2 := Aside.mk (below_then H1.out hb)
 clear hb
 go_wp2
 go_ret3
 exact ⟨rfl, H2.out⟩

set_option maxHeartbeats 1000000 in
theorem good (s : ByteArray) (a m n : Int) (w : World)
  (hr : Calls Tryz.prog 157 #[.pointer (some ⟨w.heap.size, 0, none⟩)] (w.alloc (.cells #[.string s, .int .i64 a, .int .i64 0] 237)) fun e w' => e = .returned .nilIface ∧ (w.alloc (.cells #[.string s, .int .i64 a, .int .i64 0] 237)).grownBy w' (some w.heap.size) ∧ w'.heap[w.heap.size]? = some (.cells #[.string s, .int .i64 m, .int .i64 n] 237 (0, 0))) :
  Calls Tryz.prog 147 #[.string s, .int .i64 a] w fun e w' => e = .returned (.tuple #[.int .i64 n, .int .i64 m, .int .i64 0]) ∧ Below w.heap.size w w' := by
 have h1 : Below w.heap.size w (w.alloc (.cells #[.string s, .int .i64 a, .int .i64 0] 237)) := below_new _ _
 go_enter Tryz.func147, Tryz.ntmps147
 go_wp2_with fail
 refine hr.mono ?_
 rintro e w1 ⟨rfl, hg, hh⟩
 have H1 := Aside.mk (below_grown h1 hg (Nat.le_refl _))
 have c1 : w1.cell? ⟨w.heap.size, 1, none⟩ = some (.int .i64 m) := cel hh 1 rfl
 have c2 : w1.cell? ⟨w.heap.size, 2, none⟩ = some (.int .i64 n) := cel hh 2 rfl
 clear hr h1 hg hh
 go_wp2
 go_quiet (fail)
 go_wp2
 go_ret3
 exact ⟨rfl, below_then H1.out (below_drewN _ _)⟩
theorem decode (s : ByteArray) (a : Int) (w : World) (p : Nat → Addr) (hG : Globs w p) (h0 : 0 ≤ a) (h1 : a ≤ s.size) (hs : s.size ≤ maxLen) :
  Calls Tryz.prog 147 #[.string s, .int .i64 a] w fun e w' => e = .returned (.tuple #[.int .i64 (dec s a).1, .int .i64 (dec s a).2.1, .int .i64 (dec s a).2.2]) ∧ Below w.heap.size w w' := by
 have hG1 : Globs (w.alloc (.cells #[.string s, .int .i64 a, .int .i64 0] 237)) p := hG.below (below_new _ _)
 have hF := hG.free (Nat.le_refl w.heap.size)
 have hb : (w.alloc (.cells #[.string s, .int .i64 a, .int .i64 0] 237)).heap[w.heap.size]? = some (.cells #[.string s, .int .i64 a, .int .i64 0] 237 (0, 0)) := World.alloc_heap_new _ _
 have BR := bt_range s a
 unfold dec
 by_cases c1 : (s.size : Int) ≤ a
 ·rw [if_pos c1]
  exact fail_errShort s a _ w p hG ((read_end s a _ _ p hG1 h0 c1 h1 hs hb).mono fun e w' h => ⟨h.1, grown_of_below h.2 _⟩)
 rw [if_neg c1]
 by_cases c2 : bt s a < 128
 ·rw [if_pos c2]
  exact good s a _ _ w (read_small s a _ _ p hG1 hF h0 (by omega) c2 hs hb)
 rw [if_neg c2]
 by_cases c3 : bt s a = 128 ∨ 132 < bt s a
 ·rw [if_pos c3]
  rcases c3 with c3 | c3
  ·exact fail_errForm s a _ w p hG (read_form80 s a _ _ p hG1 hF h0 (by omega) c3 hs hb)
  ·exact fail_errForm s a _ w p hG (read_form85 s a _ _ p hG1 hF h0 (by omega) c3 hs hb)
 rw [if_neg c3]
 by_cases c4 : (s.size : Int) < a + 1 + (bt s a - 128)
 ·rw [if_pos c4]
  exact fail_errShort s a _ w p hG (read_short s a _ _ p hG1 hF h0 (by omega) (by omega) (by omega) c4 hs hb)
 rw [if_neg c4]
 by_cases c5 : 16777215 < lf s (a + 1) (bt s a - 128).toNat
 ·rw [if_pos c5]
  exact fail_errSize s a _ w p hG (read_big s a _ _ p hG1 hF h0 (by omega) (by omega) (by omega) (by omega) c5 hs hb)
 rw [if_neg c5]
 exact good s a _ _ w (read_ok s a _ _ p hG1 hF h0 (by omega) (by omega) (by omega) (by omega) (by omega) hs hb)
end Go.Proofs.YtiafggoaedifdaaGreatDoor.Size
/- size.encoded's inner function: a byte ahead of some. Conditions: the shape of memory that each theorem names. -/
namespace Go.Proofs.YtiafggoaedifdaaGreatDoor.Size
open Go.RowKit
set_option linter.unusedVariables false
def u8l (l : List UInt8) : List Value := l.map fun u => .int .u8 u.toNat
theorem u8l_length (l : List UInt8) : (u8l l).length = l.length := by simp [u8l]
theorem u8l_get (l : List UInt8) (j : Nat) : (u8l l)[j]? = (l[j]?).map fun u => .int .u8 u.toNat := by simp [u8l]
theorem u8l_one (l : List UInt8) : ∀ v ∈ u8l l, v.oneCell' = true := by
 intro v hv
 obtain ⟨u, _, rfl⟩ := List.mem_map.1 hv
 rfl
def BS (w : World) (G : Nat → Prop) (v : Value) (l : List UInt8) : Prop :=
 (l = [] ∧ v = .slice none 0 0) ∨ ∃ g c, G g ∧ v = .slice (some ⟨g, 0, none⟩) l.length c ∧ ∀ j u, l[j]? = some u → w.cell? ⟨g, j, none⟩ = some (.int .u8 u.toNat)
theorem BS.grown {w w' : World} {G : Nat → Prop} {v : Value} {l : List UInt8} (h : BS w G v l) {row : Option Nat} (hg : w.grownBy w' row) (hr : ∀ b, G b → some b ≠ row) : BS w' G v l := by
 rcases h with h | ⟨g, c, hG, rfl, hc⟩
 ·exact .inl h
 ·exact .inr ⟨g, c, hG, rfl, fun j u hu => cell_grown (hc j u hu) hg (hr g hG)⟩
theorem BS.mono {w : World} {G G' : Nat → Prop} {v : Value} {l : List UInt8} (h : BS w G v l) (hi : ∀ b, G b → G' b) : BS w G' v l := by
 rcases h with h | ⟨g, c, hG, rfl, hc⟩
 ·exact .inl h
 ·exact .inr ⟨g, c, hi g hG, rfl, hc⟩
theorem BS.shape {w : World} {G : Nat → Prop} {v : Value} {l : List UInt8} (h : BS w G v l) : ∃ A c, v = .slice A l.length c := by
 rcases h with ⟨rfl, rfl⟩ | ⟨g, c, _, rfl, hc⟩
 ·exact ⟨none, 0, rfl⟩
 ·exact ⟨_, _, rfl⟩
theorem own_one (w : World) (u : UInt8) : (w.alloc (.cells #[.int .u8 u.toNat] 5)).ownsRow w.heap.size 5 1 (.slice (some ⟨w.heap.size, 0, none⟩) 1 1) 1 (u8l [u]) :=
 ⟨rfl, .inr ⟨w.heap.size, 1, #[.int .u8 u.toNat], rfl, Nat.le_refl _, World.alloc_heap_new _ _, Nat.le_refl _, by unfold maxLen; omega, rfl, rfl⟩⟩
theorem BS.of_own {w : World} {base n : Nat} {v : Value} {l : List UInt8} (h : w.ownsRow base 5 1 v n (u8l l)) : BS w (fun b => base ≤ b) v l := by
 have hn : n = l.length := by have := h.1; rw [u8l_length] at this; omega
 subst hn
 rcases h.2 with ⟨rfl, h0⟩ | ⟨g, cap, cur, rfl, hb, _⟩
 ·exact .inl ⟨List.eq_nil_of_length_eq_zero h0, rfl⟩
 ·refine .inr ⟨g, cap, hb, rfl, fun j u hu => ?_⟩
  have h1 := h.cells (g := g) rfl j (.int .u8 u.toNat) (by rw [u8l_get, hu]; rfl)
  rwa [show (⟨g, 0, none⟩ : Addr).add j = ⟨g, j, none⟩ by unfold Addr.add; split <;> simp_all] at h1
set_option maxRecDepth 100000 in
theorem lay_first (u : UInt8) (O : Nat) (w : World) (hO : w.heap[O]? = some (.cells #[.slice none 0 0] 73 (0, 0))) :
  Calls Tryz.prog 150 #[.int .u8 u.toNat, .pointer (some ⟨O, 0, none⟩)] w fun e w' => (∃ x, e = .returned x) ∧ w.grownBy w' (some O) ∧ ∃ v', w'.heap[O]? = some (.cells #[v'] 73 (0, 0)) ∧ BS w' (fun b => w.heap.size ≤ b) v' [u] := by
 have hlt : O < w.heap.size := (Array.getElem?_eq_some_iff.1 hO).1
 have hn := below_new w (.cells #[.int .u8 u.toNat] 5)
 have hO1 := blk_below hO hn
 have c1 : (w.alloc (.cells #[.int .u8 u.toNat] 5)).cell? ⟨O, 0, none⟩ = some (.slice none 0 0) := cel hO1 0 rfl
 have f1 := frz hO1 0
 have HR := Aside.mk (own_one w u)
 have HO1 := Aside.mk hO1
 have HN := Aside.mk hn
 obtain ⟨i0, hi, hz⟩ := Option.map_eq_some_iff.1 (show (Tryz.prog.info? 5).map (fun i => (i.zero, i.size, i.bytes)) = some (some (.int .u8 0), 1, 1) by kernel_rfl)
 clear hO hO1 hn hz
 go_enter Tryz.func150, Tryz.ntmps150
 go_wp2_with (refine wpList_append_own_none rfl (.tmp 4) (.tmp 5) 73 rfl w.heap.size 5 i0 1 Tryz.underlying73 hi _ 1 (u8l [u]) rfl HR.out rfl ?_; generalize w.alloc (.cells #[.int .u8 u.toNat] 5) = W1 at HR HO1 HN c1 f1 ⊢)
 go_end0
 have hs := set_grown W1 O 0 (.slice (some ⟨w.heap.size, 0, none⟩) 1 1)
 refine ⟨⟨_, rfl⟩, grown_trans (grown_of_below HN.out _) hs, _, set_blk HO1.out 0 _, ?_⟩
 exact BS.of_own (HR.out.kept hs (.inr (by simp [Value.ownBlock]; omega)))
set_option maxRecDepth 100000 in
theorem lay_more (u : UInt8) (O : Nat) (w : World) (g c : Nat) (l : List UInt8) (hl : l.length ≤ 1000) (hO : w.heap[O]? = some (.cells #[.slice (some ⟨g, 0, none⟩) l.length c] 73 (0, 0)))
  (hc : ∀ j u, l[j]? = some u → w.cell? ⟨g, j, none⟩ = some (.int .u8 u.toNat)) :
  Calls Tryz.prog 150 #[.int .u8 u.toNat, .pointer (some ⟨O, 0, none⟩)] w fun e w' => (∃ x, e = .returned x) ∧ w.grownBy w' (some O) ∧ ∃ v', w'.heap[O]? = some (.cells #[v'] 73 (0, 0)) ∧ BS w' (fun b => w.heap.size ≤ b) v' (u :: l) := by
 have hlt : O < w.heap.size := (Array.getElem?_eq_some_iff.1 hO).1
 have hn := below_new w (.cells #[.int .u8 u.toNat] 5)
 have hO1 := blk_below hO hn
 have c1 : (w.alloc (.cells #[.int .u8 u.toNat] 5)).cell? ⟨O, 0, none⟩ = some (.slice (some ⟨g, 0, none⟩) l.length c) := cel hO1 0 rfl
 have f1 := frz hO1 0
 have HR := Aside.mk (own_one w u)
 have HO1 := Aside.mk hO1
 have HN := Aside.mk hn
 have HL := Aside.mk hl
 have HC := Aside.mk (show ∀ j v, (u8l l)[j]? = some v → (w.alloc (.cells #[.int .u8 u.toNat] 5)).cell? ((⟨g, 0, none⟩ : Addr).add j) = some v from fun j v hv => by
  rw [u8l_get] at hv
  obtain ⟨x, hx, rfl⟩ := Option.map_eq_some_iff.1 hv
  rw [show (⟨g, 0, none⟩ : Addr).add j = ⟨g, j, none⟩ by unfold Addr.add; split <;> simp_all]
  exact cell_below (hc j x hx) hn)
 obtain ⟨i0, hi, hz⟩ := Option.map_eq_some_iff.1 (show (Tryz.prog.info? 5).map (fun i => (i.zero, i.size, i.bytes)) = some (some (.int .u8 0), 1, 1) by kernel_rfl)
 simp only [Prod.mk.injEq] at hz
 obtain ⟨hz0, hz1, hz2⟩ := hz
 clear hO hO1 hn hc
 go_enter Tryz.func150, Tryz.ntmps150
 go_wp2_with (refine wpList_append_own _ rfl (.tmp 4) (.tmp 5) 73 rfl w.heap.size 5 i0 (.int .u8 0) 1 1 Tryz.underlying73 hi hz0 hz1 hz2 rfl (by decide) _ 1 (u8l [u]) rfl HR.out ⟨g, 0, none⟩ l.length c (u8l l) rfl (by rw [u8l_length, Nat.mul_one]) HC.out (u8l_one l) ?_ ?_ ?_ ?_)
 ·unfold maxLen; omega
 ·omega
 ·simp
 intro v' w1 hown hgrow _
 rw [Nat.add_comm] at hown
 obtain ⟨g', cap', rfl⟩ := ownsRow_succ hown
 have hneO : O ≠ w.heap.size := by omega
 have hb1 := blk_grown HO1.out hgrow (by simpa [Value.ownBlock] using hneO)
 have c2 : w1.cell? ⟨O, 0, none⟩ = some (.slice (some ⟨g, 0, none⟩) l.length c) := cel hb1 0 rfl
 have f2 := frz hb1 0
 have HW := Aside.mk hown
 have HB1 := Aside.mk hb1
 have HGR := Aside.mk hgrow
 clear hown hb1 hgrow c1 f1 hi hz0 hz1 hz2
 go_wp2
 go_end0
 have hs := set_grown w1 O 0 (.slice (some ⟨g', 0, none⟩) (l.length + 1) cap')
 have hgo := (HW.out.lt g' rfl).1
 have h1 : w.grownBy w1 (some O) := ⟨HGR.out.os, HGR.out.tape, HGR.out.output, Nat.le_trans HN.out.size HGR.out.size, fun k hk hr => (HGR.out.block k (Nat.lt_of_lt_of_le hk HN.out.size) (by simp [Value.ownBlock]; omega)).trans (HN.out.block k hk)⟩
 refine ⟨⟨_, rfl⟩, grown_trans h1 hs, _, set_blk HB1.out 0 _, ?_⟩
 exact BS.of_own (l := u :: l) (HW.out.kept hs (.inr (by simp [Value.ownBlock]; omega)))
theorem lay (u : UInt8) (O : Nat) (w : World) (v : Value) (l : List UInt8) (hl : l.length ≤ 1000) (hO : w.heap[O]? = some (.cells #[v] 73 (0, 0))) {G : Nat → Prop} (hv : BS w G v l) :
  Calls Tryz.prog 150 #[.int .u8 u.toNat, .pointer (some ⟨O, 0, none⟩)] w fun e w' => (∃ x, e = .returned x) ∧ w.grownBy w' (some O) ∧ ∃ v', w'.heap[O]? = some (.cells #[v'] 73 (0, 0)) ∧ BS w' (fun b => w.heap.size ≤ b) v' (u :: l) := by
 rcases hv with ⟨rfl, rfl⟩ | ⟨g, c, _, rfl, hc⟩
 ·exact lay_first u O w hO
 ·exact lay_more u O w g c l hl hO hc
end Go.Proofs.YtiafggoaedifdaaGreatDoor.Size
