/- Several texts, one behind the other. size.parts: a number's bytes, the least first. Conditions: the shape of memory that each theorem names. size.Encode: what is refused, and the shortest lengths. Conditions: the package's variables hold their sentinels. size.encoded: the lengths of more than one byte. Conditions: the package's variables hold their sentinels. size.Encode: the least bytes of a length, or none. Conditions: the package's variables hold their sentinels. Contracts of functions of Go's library, as the kit's shelf proves them of whatever program, at this program's numbers. Each states its own conditions. tlv, walked: lengths (size.Encode, size.Decode), texts one behind the other (strings.Join). Conditions: lengths that may be; texts of at most 10^9 bytes. tlv, plain: how long right trees' bytes are; what is wrong with what is read, and where; no error is none. No program. -/
import Derived.Test.YtiafggoaedifdaaGreatDoorP25
import Derived.Test.YtiafggoaedifdaaGreatDoorP01
import Derived.Deep.LoopGhost
import Derived.Shelf.Strings.OnBuilder
import Derived.Test.YtiafggoaedifdaaGreatDoorProg
import Derived.Test.YtiafggoaedifdaaGreatDoorP24
import Derived.Test.YtiafggoaedifdaaGreatDoorP04
/- size.parts: a number's bytes, the least first. Conditions: the shape of memory that each theorem names. -/
namespace Go.Proofs.YtiafggoaedifdaaGreatDoor.Size
open Go.RowKit
set_option linter.unusedVariables false
def partsOf : Nat → Nat → List UInt8
 | 0, _ => []
 | k + 1, n => if n = 0 then [] else UInt8.ofNat (n % 256) :: partsOf k (n / 256)
theorem parts_maker (n : Int) (w : World) :
  Calls Tryz.prog 151 #[.int .i64 n] w fun e w' => e = .returned (.func (.func 159) #[] #[.pointer (some ⟨w.heap.size, 0, none⟩)]) ∧ w.alloc (.cells #[.int .i64 n] 3) = w' := by
 go_enter Tryz.func151, Tryz.ntmps151
 go_wp2
 go_ret
 exact ⟨rfl, rfl⟩
set_option maxRecDepth 100000 in
set_option maxHeartbeats 2000000 in
theorem parts_iter {l0 Bx : Nat} {S : Nat → Prop} (hSx : ¬ S Bx) (J : List UInt8 → World → Prop)
  (hJ : ∀ pre W W', J pre W → W.grownBy W' (some Bx) → J pre W')
  (hY : ∀ pre x W, pre.length < 4 → J pre W → ∃ fn tmps assign body, (Instr.yield l0 #[.int .u8 (UInt8.toNat x)]).run Tryz.prog W = .ok (.round l0 fn tmps assign body) W ∧ RoundIn Fence.wide 0 Tryz.prog l0 fn tmps assign body W (fun e W' => e = .returned (.bool true) ∧ J (pre ++ [x]) W' ∧ Upd S W W'))
  (n : Nat) (hn : n < 4294967296) (W : World) (h0 : J [] W) (hB : W.heap[Bx]? = some (.cells #[.int .i64 n] 3 (0, 0))) :
  Calls Tryz.prog 159 #[.func (.yield l0) #[] #[], .pointer (some ⟨Bx, 0, none⟩)] W fun e W' => (∃ v, e = .returned v) ∧ J (partsOf 4 n) W' ∧ Upd (fun k => S k ∨ k = Bx) W W' := by
 go_enter Tryz.func159, Tryz.ntmps159
 go_wp2
 go_step3
 go_wp2
 go_step3
 go_wp2
 go_loopg [] 5 (fun gk wr => Aside (∃ pre m, partsOf 4 n = pre ++ partsOf (gk - 1) m ∧ pre.length + gk = 5 ∧ m < 256 ^ (gk - 1) ∧ J pre wr ∧ wr.heap[Bx]? = some (.cells #[.int .i64 (m : Nat)] 3 (0, 0)) ∧ Upd (fun k => S k ∨ k = Bx) W wr))
 case atStart => exact ⟨⟨[], n, rfl, rfl, hn, h0, hB, Upd.refl _ _⟩⟩
 case round =>
  obtain ⟨pre, m, e1, e2, e3, hJ1, hB1, hU1⟩ := hrel.out
  have cx : wr.cell? ⟨Bx, 0, none⟩ = some (.int .i64 (m : Int)) := cel hB1 0 rfl
  have fx := frz hB1 0
  have HJ1 := Aside.mk hJ1
  have HB1 := Aside.mk hB1
  have HU := Aside.mk hU1
  have HE := Aside.mk (And.intro e1 (And.intro e2 e3))
  clear hrel hJ1 hB1 hU1 e1 e2 e3 hB h0
  by_cases hm : m = 0
  ·subst hm
   have q : decide ((0 : Int) < ((0 : Nat) : Int)) = false := by decide
   go_wp2
   rw [Exit.noGoto_normal]
   go_end0
   refine ⟨⟨_, rfl⟩, ?_, HU.out⟩
   have h1 : partsOf (gk - 1) 0 = [] := by cases gk - 1 <;> rfl
   rw [HE.out.1, h1, List.append_nil]
   exact HJ1.out
  ·have hg2 : 2 ≤ gk := by
    rcases Nat.lt_or_ge gk 2 with h | h
    ·have h3 := HE.out.2.2
     rw [show gk - 1 = 0 by omega] at h3
     omega
    ·exact h
   obtain ⟨k, rfl⟩ : ∃ k, gk = k + 2 := ⟨gk - 2, by omega⟩
   have hk3 : k ≤ 3 := by have := HE.out.2.1; omega
   have hm32 : m < 4294967296 := by
    have h3 := HE.out.2.2
    have h4 : 256 ^ (k + 2 - 1) ≤ 256 ^ 4 := Nat.pow_le_pow_right (by omega) (by omega)
    omega
   have q : decide ((0 : Int) < (m : Int)) = true := by rw [decide_eq_true_eq]; omega
   have hpos : (0 : Int) < (m : Int) := by omega
   have hx : ((UInt8.ofNat (m % 256)).toNat : Int) = (m : Int) % 256 := by
    rw [UInt8.toNat_ofNat']
    omega
   obtain ⟨fn, tm, asg, bo, hy, hR⟩ := hY pre (UInt8.ofNat (m % 256)) wr (by have := HE.out.2.1; omega) HJ1.out
   rw [hx] at hy
   have HRR := Aside.mk hR
   clear hR hx
   refine (wpIn_wide (n := 1)).1 ?_
   gi_wp2_with fail
   refine HRR.out.mono ?_
   rintro e w1 ⟨rfl, hJ3, hU3⟩
   have hb3 := hU3.blk HB1.out hSx
   have cx3 : w1.cell? ⟨Bx, 0, none⟩ = some (.int .i64 (m : Int)) := cel hb3 0 rfl
   have fx3 := frz hb3 0
   have HJ3 := Aside.mk hJ3
   have HU3 := Aside.mk hU3
   have HB3 := Aside.mk hb3
   clear hJ3 hU3 hy hb3 cx fx
   gi_wp2
   go_roundg (k + 1)
   case measure => omega
   case rel =>
    refine ⟨⟨pre ++ [UInt8.ofNat (m % 256)], m / 256, ?_, ?_, ?_, ?_, ?_, ?_⟩⟩
    ·rw [HE.out.1]
     show pre ++ partsOf (k + 1) m = _
     rw [partsOf, if_neg hm, List.append_assoc]
     rfl
    ·have := HE.out.2.1; rw [List.length_append, List.length_singleton]; omega
    ·have h3 := HE.out.2.2
     show m / 256 < 256 ^ k
     rw [show k + 2 - 1 = k + 1 by omega, Nat.pow_succ] at h3
     omega
    ·exact hJ _ _ _ HJ3.out (set_grown _ _ _ _)
    ·rw [show ((m / 256 : Nat) : Int) = (m : Int) / 256 by omega]
     exact set_blk HB3.out 0 _
    ·exact HU.out.trans ((HU3.out.mono (fun k h => .inl h)).trans (Upd.of_grown (set_grown _ _ _ _) (.inr rfl)))
end Go.Proofs.YtiafggoaedifdaaGreatDoor.Size
/- size.Encode: what is refused, and the shortest lengths. Conditions: the package's variables hold their sentinels. -/
namespace Go.Proofs.YtiafggoaedifdaaGreatDoor.Size
open Go.RowKit
set_option linter.unusedVariables false
set_option maxRecDepth 100000 in
set_option maxHeartbeats 1000000 in
theorem encoded_neg (n : Int) (w : World) (p : Nat → Addr) (hG : Globs w p) (hn : n < 0) :
  Calls Tryz.prog 136 #[.int .i64 n] w fun e w' => e = .returned (.tuple #[.string ⟨#[]⟩, .iface 222 (.agg #[.int .i64 n, .iface 266 (.pointer (some (p 8)))])]) ∧ Below w.heap.size w w' := by
 have k0 := hG.cell 8 (by decide)
 have q0 : decide (n < 0) = true := by simpa using hn
 clear hG
 go_enter Tryz.func136, Tryz.ntmps136
 go_wp2_with fail
 refine (first_yes n 266 (.pointer (some (p 8))) _ _ ?_ ?_).mono ?_
 ·exact cell_new _ _ _ _ 0 rfl
 ·exact cell_new _ _ _ _ 1 rfl
 rintro e w2 ⟨rfl, hb⟩
 have H2 := Aside.mk (below_then (below_new _ _) hb)
 clear hb
 clear k0
 go_wp2
 go_ret2
 exact ⟨rfl, H2.out⟩
set_option maxRecDepth 100000 in
set_option maxHeartbeats 1000000 in
theorem encoded_great (n : Int) (w : World) (p : Nat → Addr) (hG : Globs w p) (hn : 16777215 < n) :
  Calls Tryz.prog 136 #[.int .i64 n] w fun e w' => e = .returned (.tuple #[.string ⟨#[]⟩, .iface 222 (.agg #[.int .i64 n, .iface 266 (.pointer (some (p 8)))])]) ∧ Below w.heap.size w w' := by
 have k0 := hG.cell 8 (by decide)
 have q0 : decide (n < 0) = false := by simp; omega
 have q1 : decide (16777215 < n) = true := by simpa using hn
 clear hG
 go_enter Tryz.func136, Tryz.ntmps136
 go_wp2_with fail
 refine (first_yes n 266 (.pointer (some (p 8))) _ _ ?_ ?_).mono ?_
 ·exact cell_new _ _ _ _ 0 rfl
 ·exact cell_new _ _ _ _ 1 rfl
 rintro e w2 ⟨rfl, hb⟩
 have H2 := Aside.mk (below_then (below_new _ _) hb)
 clear hb
 clear k0
 go_wp2
 go_ret2
 exact ⟨rfl, H2.out⟩
theorem bs_strOf (l : List UInt8) : strOfNums (l.map fun x => (x.toNat : Int)) = ⟨l.toArray⟩ := by
 unfold strOfNums
 have h : (l.map fun x => (x.toNat : Int)).map (fun n => UInt8.ofNat n.toNat) = l := by
  rw [List.map_map]
  conv => rhs; rw [← List.map_id l]
  apply List.map_congr_left
  intro x _
  show UInt8.ofNat ((x.toNat : Int)).toNat = x
  rw [Int.toNat_natCast, UInt8.ofNat_toNat]
 rw [h]
theorem BS.str {w : World} {G : Nat → Prop} {v : Value} {l : List UInt8} (h : BS w G v l) :
  (convert 73 9 v).run Tryz.prog w = .ok (.string ⟨l.toArray⟩) w := by
 rcases h with ⟨rfl, rfl⟩ | ⟨g, c, _, rfl, hc⟩
 ·exact run_convert_bytes_nil w 73 5 Tryz.underlying73 Tryz.underlying5 0 0 9 Tryz.underlying9
 ·by_cases hl : l = []
  ·subst hl
   rw [run_convert_bytes_string w 73 9 5 _ _ _ Tryz.underlying73 Tryz.underlying5 Tryz.underlying9]
   rfl
  ·rw [← bs_strOf]
   refine run_convert_bytes_arg w 73 5 Tryz.underlying73 Tryz.underlying5 g 0 l.length c _ (by simp) (fun i hi => ?_) 9 Tryz.underlying9
   rw [Nat.zero_add, hc i l[i] (List.getElem?_eq_getElem hi)]
   simp [List.getD_eq_getElem?_getD, List.getElem?_eq_getElem hi]
set_option maxRecDepth 100000 in
set_option maxHeartbeats 1000000 in
theorem encoded_small (n : Int) (w : World) (p : Nat → Addr) (hG : Globs w p) (h0 : 0 ≤ n) (h1 : n < 128) :
  Calls Tryz.prog 136 #[.int .i64 n] w fun e w' => e = .returned (.tuple #[.string ⟨#[UInt8.ofNat n.toNat]⟩, .nilIface]) ∧ Below w.heap.size w w' := by
 have k0 := hG.cell 8 (by decide)
 have q0 : decide (n < 0) = false := by simp; omega
 have q1 : decide (16777215 < n) = false := by simp; omega
 have q2 : decide (n < 128) = true := by simpa using h1
 have hx : ((UInt8.ofNat n.toNat).toNat : Int) = n := by rw [UInt8.toNat_ofNat']; omega
 have HX := Aside.mk hx
 clear hG hx
 go_enter Tryz.func136, Tryz.ntmps136
 go_wp2_with fail
 refine (first_no n 266 (.pointer (some (p 8))) _ _ ?_ ?_).mono ?_
 ·exact cell_new _ _ _ _ 0 rfl
 ·exact cell_new _ _ _ _ 1 rfl
 rintro e w2 ⟨rfl, hb⟩
 have H2 := Aside.mk (below_then (below_new _ _) hb)
 have hs : (convert 73 9 (.slice (some ⟨w2.heap.size, 0, none⟩) 1 1)).run Tryz.prog (w2.alloc (.cells #[.int .u8 n] 5)) = .ok (.string ⟨#[UInt8.ofNat n.toNat]⟩) (w2.alloc (.cells #[.int .u8 n] 5)) :=
  BS.str (G := fun _ => True) (l := [UInt8.ofNat n.toNat]) (.inr ⟨_, 1, trivial, rfl, fun j u hu => by
   rcases j with _ | j
   ·obtain rfl : UInt8.ofNat n.toNat = u := by simpa using hu
    rw [HX.out]
    exact cell_new _ _ _ _ 0 rfl
   ·simp at hu⟩)
 clear hb
 clear k0
 go_wp2
 go_ret2
 exact ⟨rfl, below_then H2.out (below_new _ _)⟩
end Go.Proofs.YtiafggoaedifdaaGreatDoor.Size
/- size.encoded: the lengths of more than one byte. Conditions: the package's variables hold their sentinels. -/
namespace Go.Proofs.YtiafggoaedifdaaGreatDoor.Size
open Go.RowKit
set_option linter.unusedVariables false
attribute [local go_sem] Oper.semAt_some
def Between (r : Rng.Rec) (O D base : Nat) (pre : List UInt8) (W : World) : Prop :=
 W.heap[D]? = some (.deferred (some [])) ∧ W.heap[D + 1]? = some (r.at .ready none) ∧ base ≤ W.heap.size ∧
  W.heap[O + 1]? = some (.cells #[.func (.func 150) #[] #[.pointer (some ⟨O, 0, none⟩)]] 217 (0, 0)) ∧
  ∃ v, W.heap[O]? = some (.cells #[v] 73 (0, 0)) ∧ BS W (fun b => base ≤ b) v pre.reverse
theorem BS.upd {w w' : World} {G : Nat → Prop} {v : Value} {l : List UInt8} (h : BS w G v l) {S : Nat → Prop} (hu : Upd S w w') (hs : ∀ k, G k → ¬ S k) : BS w' G v l := by
 rcases h with h | ⟨g, c, hG, rfl, hc⟩
 ·exact .inl h
 ·exact .inr ⟨g, c, hG, rfl, fun j u hj => hu.cell (hc j u hj) (hs g hG)⟩
theorem between_upd {r : Rng.Rec} {O D base : Nat} {pre : List UInt8} {W W' : World} (h : Between r O D base pre W) {S : Nat → Prop} (hu : Upd S W W') (h1 : ¬ S D) (h2 : ¬ S (D + 1)) (h3 : ¬ S O) (h5 : ¬ S (O + 1)) (h4 : ∀ k, base ≤ k → ¬ S k) : Between r O D base pre W' := by
 obtain ⟨a1, a2, a3, a4, v, a5, a6⟩ := h
 exact ⟨hu.blk a1 h1, hu.blk a2 h2, Nat.le_trans a3 hu.size, hu.blk a4 h5, v, hu.blk a5 h3, a6.upd hu h4⟩
set_option maxRecDepth 100000 in
set_option maxHeartbeats 4000000 in
theorem encoded_long (n : Nat) (w : World) (p : Nat → Addr) (hG : Globs w p) (h0 : 128 ≤ n) (h1 : n ≤ 16777215) :
  Calls Tryz.prog 136 #[.int .i64 n] w fun e w' => e = .returned (.tuple #[.string ⟨(UInt8.ofNat (128 + (partsOf 4 n).length) :: (partsOf 4 n).reverse).toArray⟩, .nilIface]) ∧ Below w.heap.size w w' := by
 have k0 := hG.cell 8 (by decide)
 have q0 : decide ((n : Int) < 0) = false := by simp
 have q1 : decide ((16777215 : Int) < (n : Int)) = false := by simp; omega
 have q2 : decide ((n : Int) < 128) = false := by simp; omega
 have hpl : (partsOf 4 n).length ≤ 4 := by
  have h : ∀ k m, (partsOf k m).length ≤ k := by
   intro k
   induction k with
   | zero => intro m; exact Nat.le_refl _
   | succ k ih =>
    intro m
    unfold partsOf
    split
    ·simp
    ·rw [List.length_cons]; have := ih (m / 256); omega
  exact h 4 n
 clear hG
 refine Rng.calls_of_marks (n := 1) Tryz.func136 rfl ?_
 simp only [Tryz.ntmps136, List.size_toArray, List.length_cons, List.length_nil, Nat.reduceAdd, Nat.reduceSub, Array.replicate_succ, Array.replicate_zero, List.push_toArray, List.append_toArray, List.nil_append, List.cons_append]
 go_wp2_with fail
 refine (first_no n 266 (.pointer (some (p 8))) _ _ ?_ ?_).mono ?_
 ·exact cell_new _ _ _ _ 0 rfl
 ·exact cell_new _ _ _ _ 1 rfl
 rintro e w2 ⟨rfl, hb⟩
 have H2 := Aside.mk (below_then (below_new _ _) hb)
 clear hb k0
 go_wp2_with fail
 obtain ⟨W3, hW3⟩ : ∃ W3, W3 = (w2.alloc (.cells #[.slice none 0 0] 73)).alloc (.cells #[.nilFunc] 217) := ⟨_, rfl⟩
 have hO3 : W3.heap[w2.heap.size]? = some (.cells #[.slice none 0 0] 73 (0, 0)) := by rw [hW3]; exact blk_below (World.alloc_heap_new _ _) (below_new _ _)
 have hL3 : W3.heap[w2.heap.size + 1]? = some (.cells #[.nilFunc] 217 (0, 0)) := by
  have h := World.alloc_heap_new (w2.alloc (.cells #[.slice none 0 0] 73)) (.cells #[.nilFunc] 217)
  rw [World.size_alloc] at h
  rw [hW3]
  exact h
 have hb3 : Below w2.heap.size w2 W3 := by rw [hW3]; exact below_then (below_new _ _) (below_new _ _)
 have hs3 : W3.heap.size = w2.heap.size + 2 := by rw [hW3]; simp
 rw [← hW3]
 clear hW3
 have c3 : W3.cell? ⟨w2.heap.size + 1, 0, none⟩ = some .nilFunc := cel hL3 0 rfl
 have f3 := frz hL3 0
 have HO3 := Aside.mk hO3
 have HL3 := Aside.mk hL3
 have HB3 := Aside.mk hb3
 have HS3 := Aside.mk hs3
 have hst : (store ⟨w2.heap.size + 1, 0, none⟩ (.func (.func 150) #[] #[.pointer (some ⟨w2.heap.size, 0, none⟩)])).run Tryz.prog W3 = .ok () (W3.setCell ⟨w2.heap.size + 1, 0, none⟩ (.func (.func 150) #[] #[.pointer (some ⟨w2.heap.size, 0, none⟩)])) := by
  rw [run_store Tryz.prog W3 _ _ _ rfl]
  simp [c3, f3]
 have hL4 : (W3.setCell ⟨w2.heap.size + 1, 0, none⟩ (.func (.func 150) #[] #[.pointer (some ⟨w2.heap.size, 0, none⟩)])).heap[w2.heap.size + 1]? = some (.cells #[.func (.func 150) #[] #[.pointer (some ⟨w2.heap.size, 0, none⟩)]] 217 (0, 0)) := set_blk HL3.out 0 (.func (.func 150) #[] #[.pointer (some ⟨w2.heap.size, 0, none⟩)])
 have hO4 := blk_grown hO3 (set_grown W3 (w2.heap.size + 1) 0 (.func (.func 150) #[] #[.pointer (some ⟨w2.heap.size, 0, none⟩)])) (by simp)
 have hb4 := below_grown hb3 (set_grown W3 (w2.heap.size + 1) 0 (.func (.func 150) #[] #[.pointer (some ⟨w2.heap.size, 0, none⟩)])) (by omega)
 have hs4 : (W3.setCell ⟨w2.heap.size + 1, 0, none⟩ (.func (.func 150) #[] #[.pointer (some ⟨w2.heap.size, 0, none⟩)])).heap.size = w2.heap.size + 2 := by rw [← hs3]; simp [World.setCell]
 generalize W3.setCell ⟨w2.heap.size + 1, 0, none⟩ (.func (.func 150) #[] #[.pointer (some ⟨w2.heap.size, 0, none⟩)]) = W4 at hst hL4 hO4 hb4 hs4
 have HL4 := Aside.mk hL4
 have HO4 := Aside.mk hO4
 have HB4 := Aside.mk hb4
 have HS4 := Aside.mk hs4
 clear hO3 hL3 hb3 hs3 hL4 hO4 hb4 hs4 c3 f3 HO3 HL3 HB3 HS3
 rw [hst]
 clear hst
 go_wp2_with fail
 refine (parts_maker n W4).mono ?_
 rintro e w4 ⟨rfl, h4⟩
 have HB4' := Aside.mk (show w4.heap[W4.heap.size]? = some (.cells #[.int .i64 n] 3 (0, 0)) by rw [← h4]; exact World.alloc_heap_new _ _)
 have H34 := Aside.mk (show Below W4.heap.size W4 w4 by rw [← h4]; exact below_new _ _)
 have HS5 := Aside.mk (show w4.heap.size = W4.heap.size + 1 by rw [← h4]; simp)
 clear h4
 go_wp2_with fail
 refine Rng.wp_range (n := 1) (gf := 159) (lb := #[.pointer (some ⟨W4.heap.size, 0, none⟩)]) rfl (enters_of Tryz.func159 (by kernel_rfl) rfl) ?_
 intro fn
 generalize hrec : (Rng.Rec.mk fn _ _ _ _ _) = rc
 obtain ⟨W1, hW1⟩ : ∃ W1, W1 = (w4.alloc (.deferred (some []))).alloc (rc.at .ready none) := ⟨_, rfl⟩
 rw [← hW1]
 have hD := World.alloc_heap_new w4 (.deferred (some []))
 have hL := World.alloc_heap_new (w4.alloc (.deferred (some []))) (rc.at .ready none)
 have hD1 := blk_below hD (below_new _ (rc.at .ready none))
 have hbW : Below w4.heap.size w4 W1 := by rw [hW1]; exact below_then (below_new _ _) (below_new _ _)
 rw [World.size_alloc] at hL
 rw [← hW1] at hL hD1
 have hsW : W1.heap.size = w4.heap.size + 2 := by rw [hW1]; simp
 clear hW1 hD
 have hS4 := HS4.out
 have hS5 := HS5.out
 have hb4W : Below W4.heap.size W4 W1 := below_then H34.out hbW
 refine (parts_iter (l0 := w4.heap.size + 1) (Bx := W4.heap.size) (S := fun k => k = w4.heap.size + 1 ∨ k = w2.heap.size ∨ w4.heap.size + 2 ≤ k) ?_ (Between rc w2.heap.size w4.heap.size (w4.heap.size + 2)) ?_ ?_ n (by omega) W1 ?_ ?_).mono ?_
 ·omega
 ·intro pre W W' hb hg
  exact between_upd hb (Upd.of_grown (S := fun k => k = W4.heap.size) hg rfl) (by omega) (by omega) (by omega) (by omega) (by omega)
 ·intro pre x W hpl hb
  obtain ⟨a1, a2, a3, a4, v, a5, a6⟩ := hb
  have ea := congrArg Rng.Rec.assign hrec
  have eb := congrArg Rng.Rec.body hrec
  have ep := congrArg Rng.Rec.params hrec
  have et := congrArg Rng.Rec.tmps hrec
  dsimp only at ea eb ep et
  refine ⟨rc.fn, _, _, _, run_yield (P := Tryz.prog) a2 (by rw [← ep]; rfl), Rng.round a2 ?_⟩
  rw [← ea, ← eb, ← ep, ← et]
  clear ea eb ep et hrec
  gi_wp2
  refine ⟨a2, ?_⟩
  have hu := putObj_upd W (w4.heap.size + 1) (rc.at .busy none)
  have hLb : (W.putObj (w4.heap.size + 1) (rc.at .busy none)).heap[w4.heap.size + 1]? = some (rc.at .busy none) := World.putObj_heap_same (Array.getElem?_eq_some_iff.1 a2).1
  obtain ⟨W2', hW2⟩ : ∃ W2', W2' = W.putObj (w4.heap.size + 1) (rc.at .busy none) := ⟨_, rfl⟩
  rw [← hW2] at hu hLb ⊢
  clear hW2
  have a6' := a6.upd hu (by omega)
  have a5' := hu.blk a5 (by omega)
  have a4' := hu.blk a4 (by omega)
  have a1' := hu.blk a1 (by omega)
  have cl : W2'.cell? ⟨w2.heap.size + 1, 0, none⟩ = some (.func (.func 150) #[] #[.pointer (some ⟨w2.heap.size, 0, none⟩)]) := cel a4' 0 rfl
  have hsW2 : w4.heap.size + 2 ≤ W2'.heap.size := Nat.le_trans a3 hu.size
  have HA1 := Aside.mk a1'
  have HA4 := Aside.mk a4'
  have HL := Aside.mk hLb
  have HU := Aside.mk hu
  have HLAY := Aside.mk (lay x w2.heap.size W2' v pre.reverse (by rw [List.length_reverse]; omega) a5' a6')
  clear a1 a2 a4 a5 a6 a1' a4' a5' a6' hLb hu hS4 hS5 hbW hsW hb4W hL hD1 hpl
  gi_wp2_with fail
  refine ⟨trivial, rfl, CallsIn.inRound _ (callsIn_wide.2 (HLAY.out.mono ?_))⟩
  rintro e w6 ⟨⟨v6, rfl⟩, hg6, v', ho6, hb6⟩
  have HG6 := Aside.mk hg6
  have HO6 := Aside.mk ho6
  have HB6 := Aside.mk hb6
  clear hg6 ho6 hb6 cl HLAY
  gi_wp2
  have hS4 := HS4.out
  have hS5 := HS5.out
  have hu7 : Upd (fun k => k = w2.heap.size) W2' w6 := Upd.of_grown HG6.out rfl
  have hu8 := putObj_upd w6 (w4.heap.size + 1) (rc.at .ready none)
  have hL7 := hu7.blk HL.out (by omega)
  refine ⟨hL7, ⟨hu8.blk (hu7.blk HA1.out (by omega)) (by omega), World.putObj_heap_same (Array.getElem?_eq_some_iff.1 hL7).1, ?_, hu8.blk (hu7.blk HA4.out (by omega)) (by omega), _, hu8.blk HO6.out (by omega), ?_⟩, ?_⟩
  ·exact Nat.le_trans hsW2 (Nat.le_trans hu7.size hu8.size)
  ·rw [List.reverse_append, List.reverse_singleton]
   exact (HB6.out.mono (fun b hb => Nat.le_trans hsW2 hb)).upd hu8 (by omega)
  ·exact (HU.out.mono (fun k h => .inl h)).trans ((hu7.mono (fun k h => .inr (.inl h))).trans (hu8.mono (fun k h => .inl h)))
 ·exact ⟨hD1, hL, by omega, blk_below HL4.out hb4W, _, blk_below HO4.out hb4W, .inl ⟨rfl, rfl⟩⟩
 ·exact blk_below HB4'.out hbW
 ·rintro e W5 ⟨⟨v5, rfl⟩, hJ5, hU5⟩
  refine ⟨⟨_, rfl⟩, .ready, none, by simp, hJ5.2.1, ?_⟩
  dsimp only
  have hu6 := putObj_upd W5 (w4.heap.size + 1) (rc.at .exhausted none)
  obtain ⟨W6, hW6⟩ : ∃ W6, W6 = W5.putObj (w4.heap.size + 1) (rc.at .exhausted none) := ⟨_, rfl⟩
  rw [← hW6] at hu6 ⊢
  clear hW6 hrec
  have HU6 := Aside.mk (show Upd (fun k => (k = w4.heap.size + 1 ∨ k = w2.heap.size ∨ w4.heap.size + 2 ≤ k) ∨ k = W4.heap.size) W1 W6 from hU5.trans (hu6.mono (fun k h => .inl (.inl h))))
  obtain ⟨a1, _, a3, a4, vo, a5, a6⟩ := hJ5
  obtain ⟨A, c, rfl⟩ := a6.shape
  rw [List.length_reverse] at a5
  have HD6 := Aside.mk (hu6.blk a1 (by omega))
  have hl6 := hu6.blk a4 (by omega)
  have ho6 := hu6.blk a5 (by omega)
  have hb6 := a6.upd hu6 (by omega)
  rw [List.length_reverse] at hb6
  have cl : W6.cell? ⟨w2.heap.size + 1, 0, none⟩ = some (.func (.func 150) #[] #[.pointer (some ⟨w2.heap.size, 0, none⟩)]) := cel hl6 0 rfl
  have co : W6.cell? ⟨w2.heap.size, 0, none⟩ = some (.slice A (partsOf 4 n).length c) := cel ho6 0 rfl
  have hux : ((UInt8.ofNat (128 + (partsOf 4 n).length)).toNat : Int) = 128 + ((partsOf 4 n).length : Int) := by rw [UInt8.toNat_ofNat']; omega
  have HLAY := Aside.mk (hux ▸ lay (UInt8.ofNat (128 + (partsOf 4 n).length)) w2.heap.size W6 _ (partsOf 4 n).reverse (by rw [List.length_reverse]; omega) ho6 hb6)
  have HO6 := Aside.mk ho6
  have HB6 := Aside.mk (show Below w.heap.size w W6 from by
   have h1 : Below w2.heap.size w2 W1 := below_then HB4.out hb4W
   exact below_then H2.out (Upd.to_below h1 HU6.out (by omega)))
  have hpi : ((partsOf 4 n).length : Int) ≤ 4 := by omega
  clear a1 a3 a4 a5 a6 hl6 ho6 hb6 hU5 hu6 hL hD1 hb4W hbW hux
  go_wp2_with fail
  refine HLAY.out.mono ?_
  rintro e W7 ⟨⟨v7, rfl⟩, hg7, vr, ho7, hb7⟩
  obtain ⟨A7, c7, rfl⟩ := hb7.shape
  have co7 : W7.cell? ⟨w2.heap.size, 0, none⟩ = some (.slice A7 (UInt8.ofNat (128 + (partsOf 4 n).length) :: (partsOf 4 n).reverse).length c7) := cel ho7 0 rfl
  have hcv := hb7.str
  obtain ⟨txt, htx⟩ : ∃ txt : ByteArray, txt = ⟨(UInt8.ofNat (128 + (partsOf 4 n).length) :: (partsOf 4 n).reverse).toArray⟩ := ⟨_, rfl⟩
  rw [← htx] at hcv
  have HTX := Aside.mk htx
  generalize (UInt8.ofNat (128 + (partsOf 4 n).length) :: (partsOf 4 n).reverse).length = ln at hcv co7 ho7
  have HD7 := Aside.mk (blk_grown HD6.out hg7 (by simp; omega))
  have HB7 := Aside.mk (below_grown HB6.out hg7 H2.out.size)
  clear hg7 ho7 hb7 HLAY cl co htx hS4 hS5 hsW
  go_wp2
  refine ⟨by simp, .inl ⟨_, _, rfl, run_takeDeferred HD7.out, ?_⟩⟩
  refine ⟨.tuple #[.string txt, .nilIface], by simp [results, Tryz.f136, go_sem], ?_⟩
  have hu8 := putObj_upd W7 w4.heap.size (.deferred none)
  have hle : w.heap.size ≤ w4.heap.size := by have := H2.out.size; have := HS4.out; have := HS5.out; omega
  refine ⟨by rw [HTX.out], ?_⟩
  exact Upd.to_below HB7.out hu8 (by rintro k rfl; exact hle)
end Go.Proofs.YtiafggoaedifdaaGreatDoor.Size
/- size.Encode: the least bytes of a length, or none. Conditions: the package's variables hold their sentinels. -/
namespace Go.Proofs.YtiafggoaedifdaaGreatDoor.Size
open Go.RowKit
set_option linter.unusedVariables false
def encL (n : Int) : List UInt8 := if n < 128 then [UInt8.ofNat n.toNat] else UInt8.ofNat (128 + (partsOf 4 n.toNat).length) :: (partsOf 4 n.toNat).reverse
theorem encoded_ok (n : Int) (w : World) (p : Nat → Addr) (hG : Globs w p) (h0 : 0 ≤ n) (h1 : n ≤ 16777215) :
  Calls Tryz.prog 136 #[.int .i64 n] w fun e w' => e = .returned (.tuple #[.string ⟨(encL n).toArray⟩, .nilIface]) ∧ Below w.heap.size w w' := by
 unfold encL
 by_cases h : n < 128
 ·rw [if_pos h]
  exact encoded_small n w p hG h0 h
 ·rw [if_neg h]
  have h2 := encoded_long n.toNat w p hG (by omega) (by omega)
  rw [Int.toNat_of_nonneg h0] at h2
  exact h2
theorem encoded_bad (n : Int) (w : World) (p : Nat → Addr) (hG : Globs w p) (h : n < 0 ∨ 16777215 < n) :
  Calls Tryz.prog 136 #[.int .i64 n] w fun e w' => e = .returned (.tuple #[.string ⟨#[]⟩, .iface 222 (.agg #[.int .i64 n, .iface 266 (.pointer (some (p 8)))])]) ∧ Below w.heap.size w w' := by
 rcases h with h | h
 ·exact encoded_neg n w p hG h
 ·exact encoded_great n w p hG h
set_option maxRecDepth 100000 in
theorem encode_ok (n : Int) (w : World) (p : Nat → Addr) (hG : Globs w p) (h0 : 0 ≤ n) (h1 : n ≤ 16777215) :
  Calls Tryz.prog 118 #[.int .i64 n] w fun e w' => e = .returned (.tuple #[.string ⟨(encL n).toArray⟩, .int .i64 0]) ∧ Below w.heap.size w w' := by
 have HE := Aside.mk (encoded_ok n w p hG h0 h1)
 have HG := Aside.mk hG
 clear hG h0 h1
 go_enter Tryz.func118, Tryz.ntmps118
 go_wp2_with fail
 refine HE.out.mono ?_
 rintro e w1 ⟨rfl, hb⟩
 have H1 := Aside.mk hb
 clear hb HE
 go_wp2_with fail
 refine (ToldSize.told_nil w1).mono ?_
 rintro e w2 ⟨rfl, hb⟩
 have H2 := Aside.mk (below_then H1.out hb)
 clear hb
 go_wp2
 go_ret2
 exact ⟨rfl, H2.out⟩
set_option maxRecDepth 100000 in
theorem encode_bad (n : Int) (w : World) (p : Nat → Addr) (hG : Globs w p) (h : n < 0 ∨ 16777215 < n) :
  Calls Tryz.prog 118 #[.int .i64 n] w fun e w' => e = .returned (.tuple #[.string ⟨#[]⟩, .int .i64 12]) ∧ Below w.heap.size w w' := by
 have HE := Aside.mk (encoded_bad n w p hG h)
 have HG := Aside.mk hG
 clear hG h
 go_enter Tryz.func118, Tryz.ntmps118
 go_wp2_with fail
 refine HE.out.mono ?_
 rintro e w1 ⟨rfl, hb⟩
 have H1 := Aside.mk hb
 have HG1 := Aside.mk (HG.out.below hb)
 clear hb HE
 go_wp2_with fail
 refine (ToldSize.told_errSize n w1 p HG1.out).mono ?_
 rintro e w2 ⟨rfl, hb⟩
 have H2 := Aside.mk (below_then H1.out hb)
 clear hb
 go_wp2
 go_ret2
 exact ⟨rfl, H2.out⟩
end Go.Proofs.YtiafggoaedifdaaGreatDoor.Size
/- Contracts of functions of Go's library, as the kit's shelf proves them of whatever program, at this program's numbers. Each states its own conditions. -/
namespace Go.Proofs.YtiafggoaedifdaaGreatDoor
open Go.Shelf
def Shelf.Laysn156_ren : Go.Shelf.Ren := ⟨fun | 156 => 117 | 165 => 135 | 166 => 63 | 169 => 65 | 240 => 93 | 241 => 148 | 276 => 121 | 277 => 158 | n => n, fun | 0 => 0 | 3 => 3 | 4 => 4 | 5 => 5 | 9 => 9 | 20 => 20 | 31 => 22 | 37 => 73 | 70 => 88 | 72 => 90 | 75 => 61 | 76 => 91 | 80 => 95 | 127 => 143 | 164 => 133 | n => n, fun  | n => n⟩
theorem Shelf.Laysn156 : Go.Proofs.Lays.n156 Tryz.prog Shelf.Laysn156_ren := {
 mixed := by kernel_rfl
 f156 := Tryz.func117.trans (congrArg some (by kernel_rfl))
 f165 := Tryz.func135.trans (congrArg some (by kernel_rfl))
 f166 := Tryz.func63.trans (congrArg some (by kernel_rfl))
 f169 := Tryz.func65.trans (congrArg some (by kernel_rfl))
 f240 := Tryz.func93.trans (congrArg some (by kernel_rfl))
 f241 := Tryz.func148.trans (congrArg some (by kernel_rfl))
 f276 := Tryz.func121.trans (congrArg some (by kernel_rfl))
 f277 := Tryz.func158.trans (congrArg some (by kernel_rfl))
 t0 := Tryz.underlying0
 a0 := Tryz.isAgg0
 z0 := Tryz.sizeOf0
 v0 := Tryz.zeroValue0
 t3 := Tryz.underlying3
 a3 := Tryz.isAgg3
 z3 := Tryz.sizeOf3
 v3 := Tryz.zeroValue3
 t4 := Tryz.underlying4
 a4 := Tryz.isAgg4
 z4 := Tryz.sizeOf4
 v4 := Tryz.zeroValue4
 t9 := Tryz.underlying9
 a9 := Tryz.isAgg9
 z9 := Tryz.sizeOf9
 v9 := Tryz.zeroValue9
 t20 := Tryz.underlying20
 a20 := Tryz.isAgg20
 z20 := Tryz.sizeOf20
 v20 := Tryz.zeroValue20
 t31 := Tryz.underlying22
 a31 := Tryz.isAgg22
 z31 := Tryz.sizeOf22
 v31 := Tryz.zeroValue22
 t37 := Tryz.underlying73
 a37 := Tryz.isAgg73
 z37 := Tryz.sizeOf73
 v37 := Tryz.zeroValue73
 t70 := Tryz.underlying88
 a70 := Tryz.isAgg88
 z70 := Tryz.sizeOf88
 v70 := Tryz.zeroValue88
 t72 := Tryz.underlying90
 a72 := Tryz.isAgg90
 z72 := Tryz.sizeOf90
 v72 := Tryz.zeroValue90
 t75 := Tryz.underlying61
 a75 := Tryz.isAgg61
 z75 := Tryz.sizeOf61
 v75 := Tryz.zeroValue61
 t76 := Tryz.underlying91
 a76 := Tryz.isAgg91
 z76 := Tryz.sizeOf91
 v76 := Tryz.zeroValue91
 t127 := Tryz.underlying143
 a127 := Tryz.isAgg143
 z127 := Tryz.sizeOf143
 v127 := Tryz.zeroValue143
 t164 := Tryz.underlying133
 a164 := Tryz.isAgg133
 z164 := Tryz.sizeOf133
 v164 := Tryz.zeroValue133 }
theorem Shelf.Builder_Extra_Laysn156 : Builder.Extra Tryz.prog Shelf.Laysn156_ren := {
 sizeBuilder := by kernel_rfl
 liesBuilder := by kernel_rfl
 t5 := Tryz.underlying5
 a5 := Tryz.isAgg5
 z5 := Tryz.sizeOf5
 v5 := Tryz.zeroValue5
 infoByte := by kernel_rfl
 cellsByte := by kernel_rfl
 sizeByte := by kernel_rfl
 neB5 := by decide }
open Go.RowKit in
theorem Shelf.strings_Join_none  (a : Option Addr) (c : Nat) (sep : ByteArray) (w : World) :
  Calls Tryz.prog 117 #[.slice a 0 c, .string sep] w fun e w' => e = .returned (.string ⟨#[]⟩) ∧ w' = w := Any.strings_Join_none Shelf.Laysn156 Shelf.Builder_Extra_Laysn156 a c sep w
open Go.RowKit in
theorem Shelf.strings_Join  (bk o c : Nat) (xs : List ByteArray) (sep : ByteArray) (w : World) (hcells : ∀ (j : Nat) x, xs[j]? = some x → w.cell? ⟨bk, o + j, none⟩ = some (.string x)) (hbk : bk < w.heap.size) (hN : xs.length ≤ 140737488355328) (hcap : xs.length ≤ c) (hlen : (Lib.join (xs.map (·.data.toList)) sep.data.toList).length ≤ 140737488355328) :
  Calls Tryz.prog 117 #[.slice (some ⟨bk, o, none⟩) xs.length c, .string sep] w fun e w' => e = .returned (.string ⟨(Lib.join (xs.map (·.data.toList)) sep.data.toList).toArray⟩) ∧ Below w.heap.size w w' := Any.strings_Join Shelf.Laysn156 Shelf.Builder_Extra_Laysn156 bk o c xs sep w hcells hbk hN hcap hlen
end Go.Proofs.YtiafggoaedifdaaGreatDoor
/- tlv, walked: lengths (size.Encode, size.Decode), texts one behind the other (strings.Join). Conditions: lengths that may be; texts of at most 10^9 bytes. -/
namespace Go.Proofs.YtiafggoaedifdaaGreatDoor.Tl
open Go.RowKit Go.Shelf Go.Lib
open Fl (bl bt' bl_bt bl_of size_bl)
open Fi (encS one_arg two_args)
set_option linter.unusedVariables false
theorem parts_be (n : Nat) (h1 : 1 ≤ n) (h2 : n ≤ 16777215) : (Size.partsOf 4 n).reverse = be n := by
 unfold be
 by_cases a : n < 256
 ·rw [if_pos a]
  have e1 : n / 256 = 0 := by omega
  have e2 : n % 256 = n := by omega
  simp [Size.partsOf, e1, e2, show n ≠ 0 by omega]
 ·rw [if_neg a]
  by_cases b : n < 65536
  ·rw [if_pos b]
   have e1 : n / 256 / 256 = 0 := by omega
   have e2 : n / 256 % 256 = n / 256 := by omega
   simp [Size.partsOf, e1, e2, show n ≠ 0 by omega, show n / 256 ≠ 0 by omega]
  ·rw [if_neg b]
   have e1 : n / 256 / 256 / 256 = 0 := by omega
   have e2 : n / 256 / 256 % 256 = n / 65536 := by omega
   simp [Size.partsOf, e1, e2, show n ≠ 0 by omega, show n / 256 ≠ 0 by omega, show n / 256 / 256 ≠ 0 by omega]
theorem enc_szL (n : Nat) (h : n ≤ 16777215) : Size.encL (n : Nat) = szL n := by
 unfold Size.encL szL
 by_cases a : n < 128
 ·rw [if_pos (by omega), if_pos a, Int.toNat_natCast]
 ·rw [if_neg (by omega), if_neg a, Int.toNat_natCast, parts_be n (by omega) h, ← parts_be n (by omega) h, List.length_reverse]
variable (p : Nat → Addr)
theorem encode_fn (n : Nat) (h : n ≤ 16777215) : Fn Tryz.prog (envX p) 118 [.v (.int .i64 (n : Nat))] (.tup [.v (.str (bt' (szL n))), .v (.int .i64 0)]) := by
 refine ⟨enter_of (by kernel_rfl), fun w L vs hE hL ha => ?_⟩
 obtain ⟨v, rfl, h0⟩ := one_arg ha
 rw [show v = .int .i64 (n : Nat) from h0]
 refine (Size.encode_ok (n : Nat) w p hE.gl (by omega) (by omega)).mono ?_
 rintro e w' ⟨rfl, hb⟩
 rw [enc_szL n h]
 exact ⟨_, L, rfl, hb, Same.of_below hb, .inl, fun hl => (by obtain ⟨u, hu⟩ := hL hl; exact ⟨u, cell_below hu hb⟩), ⟨_, rfl, _, _, rfl, rfl, _, _, rfl, rfl, rfl⟩⟩
theorem valN_snoc : ∀ (l : List UInt8) (a : Nat) (b : UInt8), valN a (l ++ [b]) = valN a l * 256 + b.toNat
 | [], a, b => rfl
 | x :: r, a, b => by rw [List.cons_append, valN, valN, valN_snoc r]
theorem bt_getD (s : ByteArray) (a : Nat) (h : a < s.size) : bt s (a : Nat) = ((bl s)[a]'(by rw [size_bl]; exact h)).toNat := by
 unfold bt
 simp only [Int.toNat_natCast]
 rw [dif_pos h]
 rfl
theorem lf_val (s : ByteArray) (a : Nat) : ∀ k, a + k ≤ s.size → Size.lf s (a : Nat) k = valN 0 (((bl s).drop a).take k)
 | 0, _ => rfl
 | k + 1, h => by
  have hk : k < ((bl s).drop a).length := by rw [List.length_drop, size_bl]; omega
  rw [Size.lf, lf_val s a k (by omega), List.take_succ_eq_append_getElem hk, valN_snoc, List.getElem_drop, show ((a : Nat) : Int) + (k : Nat) = ((a + k : Nat) : Int) by omega, bt_getD s (a + k) (by omega)]
  omega
def decT (s : ByteArray) (a : Nat) : T := match szR ((bl s).drop a) with
 | .error e => .tup [.v (.int .i64 0), .v (.int .i64 0), .v (.int .i64 (e : Nat))]
 | .ok (n, r) => .tup [.v (.int .i64 (n : Nat)), .v (.int .i64 ((s.size - r.length : Nat) : Int)), .v (.int .i64 0)]
set_option maxRecDepth 100000 in
theorem dec_szR (s : ByteArray) (a : Nat) (ha : a ≤ s.size) : (match szR ((bl s).drop a) with
 | .error e => Size.dec s (a : Nat) = (0, 0, ((e : Nat) : Int))
 | .ok (n, r) => Size.dec s (a : Nat) = (((n : Nat) : Int), ((s.size - r.length : Nat) : Int), 0)) := by
 unfold Size.dec
 rcases Nat.lt_or_ge a s.size with h | h
 ·have h' : a < (bl s).length := by rw [size_bl]; exact h
  have hb := bt_getD s a h
  have hlt := ((bl s)[a]'h').toNat_lt
  have hn : ¬ ((s.size : Nat) : Int) ≤ ((a : Nat) : Int) := by omega
  rw [List.drop_eq_getElem_cons h', szR]
  simp only [if_neg hn]
  generalize (bl s)[a]'h' = b at *
  rw [hb]
  have hrl : ((bl s).drop (a + 1)).length = s.size - (a + 1) := by rw [List.length_drop, size_bl]
  by_cases c1 : b.toNat < 128
  ·have d1 : ((b.toNat : Nat) : Int) < 128 := by omega
   simp only [if_pos c1, if_pos d1]
   rw [hrl, show ((a : Nat) : Int) + 1 = ((s.size - (s.size - (a + 1)) : Nat) : Int) by omega]
  ·have d1 : ¬ ((b.toNat : Nat) : Int) < 128 := by omega
   simp only [if_neg c1, if_neg d1]
   by_cases c2 : b.toNat = 128 ∨ 132 < b.toNat
   ·have d2 : ((b.toNat : Nat) : Int) = 128 ∨ 132 < ((b.toNat : Nat) : Int) := by omega
    simp only [if_pos c2, if_pos d2]
    simp
   ·have d2 : ¬ (((b.toNat : Nat) : Int) = 128 ∨ 132 < ((b.toNat : Nat) : Int)) := by omega
    simp only [if_neg c2, if_neg d2]
    rcases Nat.lt_or_ge ((bl s).drop (a + 1)).length (b.toNat - 128) with c3 | c3
    ·have d3 : ((s.size : Nat) : Int) < ((a : Nat) : Int) + 1 + (((b.toNat : Nat) : Int) - 128) := by rw [hrl] at c3; omega
     simp only [if_pos c3, if_pos d3]
     simp
    ·have c3 : ¬ ((bl s).drop (a + 1)).length < b.toNat - 128 := Nat.not_lt.2 c3
     have d3 : ¬ ((s.size : Nat) : Int) < ((a : Nat) : Int) + 1 + (((b.toNat : Nat) : Int) - 128) := by rw [hrl] at c3; omega
     simp only [if_neg c3, if_neg d3]
     have hlf := lf_val s (a + 1) (b.toNat - 128) (by rw [hrl] at c3; omega)
     have e1 : (((b.toNat : Nat) : Int) - 128).toNat = b.toNat - 128 := by omega
     have e2 : ((a : Nat) : Int) + 1 = ((a + 1 : Nat) : Int) := by omega
     rw [e1, e2, hlf]
     rcases Nat.lt_or_ge 16777215 (valN 0 (((bl s).drop (a + 1)).take (b.toNat - 128))) with c4 | c4
     ·have d4 : (16777215 : Int) < ((valN 0 (((bl s).drop (a + 1)).take (b.toNat - 128)) : Nat) : Int) := by omega
      simp only [if_pos c4, if_pos d4]
      simp
     ·have c4 : ¬ 16777215 < valN 0 (((bl s).drop (a + 1)).take (b.toNat - 128)) := Nat.not_lt.2 c4
      have d4 : ¬ (16777215 : Int) < ((valN 0 (((bl s).drop (a + 1)).take (b.toNat - 128)) : Nat) : Int) := by omega
      simp only [if_neg c4, if_neg d4]
      rw [List.length_drop, hrl, show ((a + 1 : Nat) : Int) + (((b.toNat : Nat) : Int) - 128) = ((s.size - (s.size - (a + 1) - (b.toNat - 128)) : Nat) : Int) by rw [hrl] at c3; omega]
 ·rw [List.drop_eq_nil_of_le (by rw [size_bl]; exact h), szR, if_pos (by omega)]
  rfl
theorem decode_fn (s : ByteArray) (a : Nat) (ha : a ≤ s.size) (hs : s.size ≤ 1000000000) : Fn Tryz.prog (envX p) 147 [.v (.str s), .v (.int .i64 (a : Nat))] (decT s a) := by
 refine ⟨enter_of (by kernel_rfl), fun w L vs hE hL hx => ?_⟩
 obtain ⟨v, v', rfl, h, h'⟩ := two_args hx
 rw [show v = .string s from h, show v' = .int .i64 (a : Nat) from h']
 refine (Size.decode s (a : Nat) w p hE.gl (by omega) (by omega) (by show s.size ≤ 9223372036854775807; omega)).mono ?_
 rintro e w' ⟨rfl, hb⟩
 have hd := dec_szR s a ha
 refine ⟨_, L, rfl, hb, Same.of_below hb, .inl, fun hl => (by obtain ⟨u, hu⟩ := hL hl; exact ⟨u, cell_below hu hb⟩), ?_⟩
 unfold decT
 cases hr : szR ((bl s).drop a) with
 | error e =>
  rw [hr] at hd
  rw [show Size.dec s (a : Nat) = (0, 0, ((e : Nat) : Int)) from hd]
  exact ⟨_, rfl, _, _, rfl, rfl, _, _, rfl, rfl, _, _, rfl, rfl, rfl⟩
 | ok q =>
  obtain ⟨n, r⟩ := q
  rw [hr] at hd
  rw [show Size.dec s (a : Nat) = (((n : Nat) : Int), ((s.size - r.length : Nat) : Int), 0) from hd]
  exact ⟨_, rfl, _, _, rfl, rfl, _, _, rfl, rfl, _, _, rfl, rfl, rfl⟩
theorem repl_one {w : World} {L : Lv} {x : V} {cs : List Value} (h : RepL w L [x] cs) : ∃ u, cs = [u] ∧ Rep w L x u := by
 obtain ⟨u, us, rfl, _, h1, h2⟩ := h
 rw [show us = [] from h2]
 exact ⟨u, rfl, h1⟩
def catL (xs : List ByteArray) : List UInt8 := (xs.map bl).flatten
theorem join_cat (xs : List ByteArray) : Lib.join (xs.map (·.data.toList)) [] = catL xs := by
 unfold catL
 show ([] : List UInt8).intercalate (xs.map bl) = _
 generalize xs.map bl = l
 induction l with
 | nil => rfl
 | cons x r ih =>
  cases r with
  | nil => simp [List.intercalate, List.intersperse]
  | cons y t =>
   simp only [List.intercalate, List.intersperse, List.flatten_cons, List.nil_append] at ih ⊢
   rw [ih]
theorem join_fn (xs : List ByteArray) (hn : xs.length ≤ 1000000000) (hl : (catL xs).length ≤ 1000000000) : Fn Tryz.prog (envX p) 117 [.v (.sl (xs.map encS)), .v (.str (bt' []))] (.v (.str (bt' (catL xs)))) :=
 Fn.of_plain (enter_of (by kernel_rfl)) rfl fun w L vs hE ha => by
  obtain ⟨v, v', rfl, h, h'⟩ := two_args ha
  rw [show v' = .string (bt' []) from h']
  have hv : VSlice 1 VStr w (fun _ => True) [v] xs := rep_view (k := 1) (R := VStr) (enc := encS) (by omega) (fun _ => rfl) (fun x cs h => by
   obtain ⟨u, rfl, h1⟩ := repl_one h
   rw [show u = .string x from h1]
   rfl) h
  obtain ⟨A, k, rfl, hk, hx⟩ := hv.open
  by_cases h0 : xs = []
  ·subst h0
   refine (Shelf.strings_Join_none A k (bt' []) w).mono ?_
   rintro e w' ⟨rfl, rfl⟩
   exact ⟨rfl, Below.refl _ _⟩
  ·obtain ⟨b, o, rfl, _, hb, hc⟩ := hx h0
   refine (Shelf.strings_Join b o k xs (bt' []) w (fun j x hj => by
    obtain ⟨ws, e1, e2⟩ := hc j x hj
    have e1' : ws = [.string x] := e1
    subst e1'
    have := e2 0 _ rfl
    simpa using this) hb (by omega) hk (by rw [show (bt' []).data.toList = [] from rfl, join_cat]; omega)).mono ?_
   rintro e w' ⟨rfl, hb⟩
   refine ⟨?_, hb⟩
   rw [show (bt' []).data.toList = [] from rfl, join_cat]
   rfl
end Go.Proofs.YtiafggoaedifdaaGreatDoor.Tl
/- tlv, plain: how long right trees' bytes are; what is wrong with what is read, and where; no error is none. No program. -/
namespace Go.Proofs.YtiafggoaedifdaaGreatDoor.Tl
open Go.Lib
open Fl (bl bt' bl_bt bl_of size_bl)
set_option linter.unusedVariables false
mutual
theorem lay_le : ∀ (d : Nat) (n : Nd), (preN d n).all okN = true → (layN n).length ≤ 4005 * (preN d n).length
 | d, .mk t x k, ha => by
  rw [preN, List.all_cons, Bool.and_eq_true] at ha
  obtain ⟨h0, hk⟩ := ha
  unfold okN at h0
  simp only [Bool.and_eq_true, decide_eq_true_eq] at h0
  have h1 : x.size ≤ 4000 := h0.2.2
  have h2 := lays_le (d + 1) k hk
  have h3 := (szL_len (layNs k ++ bl x).length).2
  rw [layN, preN, List.length_cons, List.length_cons, List.length_append]
  generalize szL (layNs k ++ bl x).length = z at *
  rw [List.length_append, size_bl]
  omega
theorem lays_le : ∀ (d : Nat) (l : List Nd), (preNs d l).all okN = true → (layNs l).length ≤ 4005 * (preNs d l).length
 | _, [], _ => Nat.zero_le _
 | d, x :: r, ha => by
  rw [preNs, List.all_append, Bool.and_eq_true] at ha
  have h1 := lay_le d x ha.1
  have h2 := lays_le d r ha.2
  rw [layNs, preNs, List.length_append, List.length_append]
  omega
end
theorem lay_pos (n : Nd) : 1 ≤ (layN n).length := by obtain ⟨b, l, e⟩ := layN_ne n; rw [e]; simp
theorem len_lays : ∀ l : List Nd, l.length ≤ (layNs l).length
 | [] => Nat.zero_le _
 | x :: r => by
  rw [layNs, List.length_append, List.length_cons]
  have h1 := lay_pos x
  have h2 := len_lays r
  omega
theorem lays_take (l : List Nd) (i : Nat) (h : i < l.length) : layNs (l.take (i + 1)) = layNs (l.take i) ++ layN l[i] := by
 have key : ∀ (a : List Nd) (x : Nd), layNs (a ++ [x]) = layNs a ++ layN x := fun a x => by
  induction a with
  | nil => rw [List.nil_append, layNs, layNs, layNs, List.append_nil, List.nil_append]
  | cons y r ih => rw [List.cons_append, layNs, layNs, ih, List.append_assoc]
 rw [List.take_succ_eq_append_getElem h, key]
theorem lay_kid {l : List Nd} {x : Nd} (h : x ∈ l) : (layN x).length ≤ (layNs l).length := by
 induction l with
 | nil => cases h
 | cons y r ih =>
  rw [layNs, List.length_append]
  rcases List.mem_cons.1 h with rfl | h
  ·omega
  ·have := ih h; omega
theorem pre_mem {d : Nat} {l : List Nd} {x : Nd} (h : x ∈ l) (ha : (preNs d l).all okN = true) : (preN d x).all okN = true := by
 induction l with
 | nil => cases h
 | cons y r ih =>
  rw [preNs, List.all_append, Bool.and_eq_true] at ha
  rcases List.mem_cons.1 h with rfl | h
  ·exact ha.1
  ·exact ih h ha.2
def teC : TE → Nat
 | .short => 10
 | .tag => 20
 | .node => 21
 | .len e => e
theorem szR_err {l : List UInt8} {e : Nat} (h : szR l = .error e) : e = 10 ∨ e = 11 ∨ e = 12 := by
 cases l with
 | nil => rw [szR] at h; cases h; exact .inl rfl
 | cons b r =>
  rw [szR] at h
  split at h
  ·cases h
  ·split at h
   ·cases h; exact .inr (.inl rfl)
   ·split at h
    ·cases h; exact .inl rfl
    ·split at h
     ·cases h; exact .inr (.inr rfl)
     ·cases h
def errC {α : Type} : Except TE α → Prop
 | .error e => 1 ≤ teC e ∧ teC e ≤ 21
 | .ok _ => True
theorem hd_err (m c : Nat) (l : List UInt8) : errC (hdN m c l) := by
 unfold hdN
 split
 ·exact ⟨by decide, by decide⟩
 ·split
  ·exact ⟨by decide, by decide⟩
  ·cases l with
   | nil => exact ⟨by decide, by decide⟩
   | cons t r =>
    dsimp only
    split
    ·exact ⟨by decide, by decide⟩
    ·cases hs : szR r with
     | error e =>
      have := szR_err hs
      dsimp only
      show 1 ≤ e ∧ e ≤ 21
      omega
     | ok q =>
      dsimp only
      split
      ·exact ⟨by decide, by decide⟩
      ·trivial
theorem kids_err {rd : Nat → List UInt8 → Except TE (Nd × List UInt8 × Nat)} (hr : ∀ c l, errC (rd c l)) : ∀ (f c : Nat) (l : List UInt8), errC (kidsL rd f c l)
 | 0, c, l => trivial
 | f + 1, c, [] => trivial
 | f + 1, c, b :: l => by
  rw [kidsL]
  have h0 := hr c (b :: l)
  cases hd : rd c (b :: l) with
  | error e => rw [hd] at h0; exact h0
  | ok q =>
   obtain ⟨n, r, c1⟩ := q
   dsimp only
   have h1 := kids_err hr f c1 r
   cases hk : kidsL rd f c1 r with
   | error e => rw [hk] at h1; exact h1
   | ok q => trivial
theorem rd_err : ∀ (m c : Nat) (l : List UInt8), errC (rdN m c l)
 | 0, c, l => by
  rw [rdN]
  have h0 := hd_err 0 c l
  cases hh : hdN 0 c l with
  | error e => rw [hh] at h0; exact h0
  | ok q => exact ⟨by decide, by decide⟩
 | m + 1, c, l => by
  rw [rdN]
  have h0 := hd_err (m + 1) c l
  cases hh : hdN (m + 1) c l with
  | error e => rw [hh] at h0; exact h0
  | ok q =>
   obtain ⟨t, body, rest⟩ := q
   dsimp only
   split
   ·have h1 := kids_err (rd_err m) body.length (c + 1) body
    cases hk : kidsL (rdN m) body.length (c + 1) body with
    | error e => rw [hk] at h1; exact h1
    | ok q => trivial
   ·trivial
theorem decoded_err (l : List UInt8) : errC (decodedN l) := by
 unfold decodedN
 have h0 := rd_err 12 0 l
 cases hd : rdN 12 0 l with
 | error e => rw [hd] at h0; exact h0
 | ok q =>
  obtain ⟨n, r, c⟩ := q
  dsimp only
  split
  ·trivial
  ·exact ⟨by decide, by decide⟩
def failK (rd : Nat → List UInt8 → Except TE (Nd × List UInt8 × Nat)) : Nat → Nat → List UInt8 → Nat × List UInt8
 | 0, c, l => (c, l)
 | f + 1, c, l => match rd c l with
  | .ok (_, r, c') => failK rd f c' r
  | .error _ => (c, l)
def kidsA (rd : Nat → List UInt8 → Except TE (Nd × List UInt8 × Nat)) (c : Nat) (l : List UInt8) : Except TE (List Nd × Nat) := kidsL rd l.length c l
def failA (rd : Nat → List UInt8 → Except TE (Nd × List UInt8 × Nat)) (c : Nat) (l : List UInt8) : Nat × List UInt8 := failK rd l.length c l
variable {rd : Nat → List UInt8 → Except TE (Nd × List UInt8 × Nat)}
theorem kidsA_nil (c : Nat) : kidsA rd c [] = .ok ([], c) := rfl
theorem kidsA_step (hr : ∀ c l, leN l (rd c l)) {c : Nat} {l : List UInt8} (hl : l ≠ []) : kidsA rd c l = match rd c l with
  | .error e => .error e
  | .ok (n, r, c') => match kidsA rd c' r with
   | .error e => .error e
   | .ok (ns, c'') => .ok (n :: ns, c'') := by
 cases l with
 | nil => exact absurd rfl hl
 | cons b l =>
  unfold kidsA
  rw [List.length_cons, kidsL]
  have h0 := hr c (b :: l)
  cases hd : rd c (b :: l) with
  | error e => rfl
  | ok q =>
   obtain ⟨n, r, c1⟩ := q
   rw [hd] at h0
   have h2 := h0.2
   rw [List.length_cons] at h2
   dsimp only
   rw [kids_fuel hr l.length r.length c1 r (by omega) (Nat.le_refl _)]
   rfl
theorem fail_fuel (hr : ∀ c l, leN l (rd c l)) : ∀ (f g c : Nat) (l : List UInt8) (e : TE), l.length ≤ f → l.length ≤ g → kidsA rd c l = .error e → failK rd f c l = failK rd g c l
 | 0, _, c, l, e, hf, _, h => by
  obtain rfl : l = [] := List.eq_nil_of_length_eq_zero (by omega)
  rw [kidsA_nil] at h; cases h
 | f + 1, 0, c, l, e, _, hg, h => by
  obtain rfl : l = [] := List.eq_nil_of_length_eq_zero (by omega)
  rw [kidsA_nil] at h; cases h
 | f + 1, g + 1, c, l, e, hf, hg, h => by
  have hl : l ≠ [] := by rintro rfl; rw [kidsA_nil] at h; cases h
  rw [kidsA_step hr hl] at h
  rw [failK, failK]
  have h0 := hr c l
  cases hd : rd c l with
  | error e => rfl
  | ok q =>
   obtain ⟨n, r, c1⟩ := q
   rw [hd] at h h0
   have h2 := h0.2
   dsimp only at h ⊢
   cases hk : kidsA rd c1 r with
   | error e1 => exact fail_fuel hr f g c1 r e1 (by omega) (by omega) hk
   | ok q => rw [hk] at h; cases h
theorem failA_step (hr : ∀ c l, leN l (rd c l)) {c c' : Nat} {l r : List UInt8} {n : Nd} {e : TE} (hd : rd c l = .ok (n, r, c')) (hk : kidsA rd c' r = .error e) : failA rd c l = failA rd c' r := by
 have h0 := hr c l
 rw [hd] at h0
 have h2 := h0.2
 unfold failA
 cases l with
 | nil => simp at h2
 | cons b l =>
  rw [List.length_cons] at h2 ⊢
  rw [failK, hd]
  exact fail_fuel hr _ _ c' r e (by omega) (Nat.le_refl _) hk
theorem failA_here {c : Nat} {l : List UInt8} {e : TE} (hl : l ≠ []) (hd : rd c l = .error e) : failA rd c l = (c, l) := by
 unfold failA
 cases l with
 | nil => exact absurd rfl hl
 | cons b l => rw [List.length_cons, failK, hd]
theorem failA_spec (hr : ∀ c l, leN l (rd c l)) (hs : ∀ c l n r c', rd c l = .ok (n, r, c') → ∃ k, r = l.drop k) (hc : ∀ c l, cntN c (rd c l)) : ∀ (f c : Nat) (l : List UInt8) (e : TE), l.length ≤ f → c ≤ 200 → kidsA rd c l = .error e → rd (failA rd c l).1 (failA rd c l).2 = .error e ∧ (failA rd c l).1 ≤ 200 ∧ (∃ k, (failA rd c l).2 = l.drop k) ∧ (failA rd c l).2 ≠ []
 | 0, c, l, e, hf, _, h => by
  obtain rfl : l = [] := List.eq_nil_of_length_eq_zero (by omega)
  rw [kidsA_nil] at h; cases h
 | f + 1, c, l, e, hf, hc0, h => by
  have hl : l ≠ [] := by rintro rfl; rw [kidsA_nil] at h; cases h
  have h1 := h
  rw [kidsA_step hr hl] at h1
  cases hd : rd c l with
  | error e1 =>
   rw [hd] at h1
   cases h1
   rw [failA_here hl hd]
   exact ⟨hd, hc0, ⟨0, rfl⟩, hl⟩
  | ok q =>
   obtain ⟨n, r, c1⟩ := q
   rw [hd] at h1
   dsimp only at h1
   have h2 := hr c l
   have h3 := hc c l
   rw [hd] at h2 h3
   obtain ⟨_, h2⟩ := h2
   obtain ⟨_, h3⟩ := h3
   cases hk : kidsA rd c1 r with
   | ok q => rw [hk] at h1; cases h1
   | error e1 =>
    rw [hk] at h1
    cases h1
    rw [failA_step hr hd hk]
    obtain ⟨k, hk2⟩ := hs _ _ _ _ _ hd
    obtain ⟨g1, g2, ⟨j, g3⟩, g4⟩ := failA_spec hr hs hc f c1 r e (by omega) h3 hk
    exact ⟨g1, g2, ⟨k + j, by rw [g3, hk2, List.drop_drop]⟩, g4⟩
theorem hdN_suf {m c : Nat} {l : List UInt8} {t : Nat} {body rest : List UInt8} (h : hdN m c l = .ok (t, body, rest)) : ∃ k, l.drop k = body ++ rest := by
 unfold hdN at h
 split at h
 ·cases h
 ·split at h
  ·cases h
  ·cases l with
   | nil => cases h
   | cons b r =>
    dsimp only at h
    split at h
    ·cases h
    ·cases hs : szR r with
     | error e => rw [hs] at h; cases h
     | ok q =>
      obtain ⟨n, r2⟩ := q
      rw [hs] at h
      dsimp only at h
      split at h
      ·cases h
      ·obtain ⟨e1, e2⟩ := Prod.mk.inj (Except.ok.inj h)
       obtain ⟨e3, e4⟩ := Prod.mk.inj e2
       obtain ⟨_, _, _, k, hk⟩ := szR_le hs
       exact ⟨k + 1, by rw [List.drop_succ_cons, ← hk, ← e3, ← e4, List.take_append_drop]⟩
theorem rd_suf : ∀ (m c : Nat) (l : List UInt8) (n : Nd) (r : List UInt8) (c' : Nat), rdN m c l = .ok (n, r, c') → ∃ k, r = l.drop k := fun m c l n r c' h => by
 cases m with
 | zero => rw [rdN] at h; split at h <;> cases h
 | succ m =>
  rw [rdN] at h
  cases hh : hdN (m + 1) c l with
  | error e => rw [hh] at h; cases h
  | ok q =>
   obtain ⟨t, body, rest⟩ := q
   rw [hh] at h
   obtain ⟨k, hk⟩ := hdN_suf hh
   have hrest : rest = l.drop (k + body.length) := by
    rw [← List.drop_drop, hk, List.drop_left]
   dsimp only at h
   split at h
   ·cases hk : kidsL (rdN m) body.length (c + 1) body with
    | error e => rw [hk] at h; cases h
    | ok q =>
     rw [hk] at h
     cases h
     exact ⟨_, hrest⟩
   ·cases h
    exact ⟨_, hrest⟩
end Go.Proofs.YtiafggoaedifdaaGreatDoor.Tl
