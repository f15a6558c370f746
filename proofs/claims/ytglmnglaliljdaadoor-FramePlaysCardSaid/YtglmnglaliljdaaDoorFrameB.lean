/- frame.(*buffer).add, drop. Conditions: the shape of memory that each theorem names. -/
import Derived.Test.YtglmnglaliljdaaDoorFrameA
import Derived.Laws.CopyOwn
import Derived.Laws.MakeOwn
import Derived.BigRegion
import Derived.RegionTactic
import Derived.Deep.RegionHeld3
namespace Go.Proofs.YtglmnglaliljdaaDoor.Frame
open Go.RowKit Size
set_option linter.unusedVariables false
def u8s (l : List UInt8) : List Value := l.map fun x => .int .u8 x.toNat
theorem u8s_get (l : List UInt8) (j : Nat) : (u8s l)[j]? = (l[j]?).map fun x => Value.int .u8 x.toNat := by simp [u8s]
theorem u8s_length (l : List UInt8) : (u8s l).length = l.length := by simp [u8s]
theorem u8s_one (l : List UInt8) : ∀ v ∈ u8s l, v.oneCell' = true := by
  intro v hv
  obtain ⟨x, _, rfl⟩ := List.mem_map.1 hv
  rfl
theorem splice2 (a b : List UInt8) (z : List Value) (hz : z.length = a.length + b.length) : splice (splice z 0 (u8s a)) a.length (u8s b) = u8s (a ++ b) := by
  have e1 : splice z 0 (u8s a) = u8s a ++ z.drop a.length := by simp [splice, u8s_length]
  rw [e1]
  unfold splice
  rw [List.take_append_of_le_length (by rw [u8s_length]; omega), List.take_of_length_le (by rw [u8s_length]; omega), u8s_length]
  rw [List.drop_append, List.drop_of_length_le (by rw [u8s_length]; omega)]
  rw [u8s_length, List.drop_drop, List.drop_of_length_le (by omega)]
  simp [u8s]
theorem add_plain (g j : Nat) : (⟨g, 0, none⟩ : Addr).add j = ⟨g, j, none⟩ := by unfold Addr.add; split <;> simp_all
theorem src {w w' : World} {av : Nat → Prop} {A : Option Addr} {l : List UInt8} (hx : l ≠ [] → ∃ b o, A = some ⟨b, o, none⟩ ∧ av b ∧ ∀ j u, l[j]? = some u → w.cell? ⟨b, o + j, none⟩ = some (.int .u8 u.toNat)) (hb : Below w.heap.size w w') (d : Option Addr) (g off : Nat) (hd : 0 < (u8s l).length → d = some ⟨g, off, none⟩) :
    0 < (u8s l).length → d = some ⟨g, off, none⟩ ∧ ∃ ad, A = some ad ∧ ∀ j v, (u8s l)[j]? = some v → w'.cell? (ad.add j) = some v := by
  intro h0
  rw [u8s_length] at h0
  obtain ⟨b, o, e, _, hc⟩ := hx (by rintro rfl; simp at h0)
  refine ⟨hd (by rw [u8s_length]; exact h0), ⟨b, o, none⟩, e, fun j v hv => ?_⟩
  rw [u8s_get] at hv
  obtain ⟨u, hu, rfl⟩ := Option.map_eq_some_iff.1 hv
  have ea : (⟨b, o, none⟩ : Addr).add j = ⟨b, o + j, none⟩ := by unfold Addr.add; split <;> simp_all
  rw [ea]
  exact cell_below (hc j u hu) hb
theorem run_low (A : Option Addr) (n c m : Nat) (hm : m ≤ n) (W : World) : (Instr.slice 45 (.slice A n c) (some (.int .i64 (m : Int))) none none).run Tryd.prog W = .ok (.slice (if c = m then A else A.map (·.add m)) (n - m) (c - m)) W := by
  have hi : ∃ i, Tryd.prog.info? 5 = some i ∧ i.size = 1 := by
    have h0 : (Tryd.prog.info? 5).map (fun i => (i.zero, i.size, i.bytes)) = some (some (.int .u8 0), 1, 1) := by kernel_rfl
    obtain ⟨i, hi, hz⟩ := Option.map_eq_some_iff.1 h0
    simp only [Prod.mk.injEq] at hz
    exact ⟨i, hi, hz.2.1⟩
  obtain ⟨i, hi, hs⟩ := hi
  have hel : Tryd.prog.elem 45 = 5 := by kernel_rfl
  have hu : Tryd.prog.underlying 45 = some (.slice (Tryd.prog.elem 45)) := by rw [hel]; exact Tryd.underlying45
  rw [run_slice_l W 45 A n c hu .i64 (m : Int) (Int.natCast_nonneg _) (by omega), hel]
  simp [sizeOf, typeInfo, hi, hs, sliced, Result.andThen]
theorem made (a b : Nat) (h : a + b ≤ 100000000) (W : World) : (Instr.makeSlice 45 (.int .i64 ((a : Int) + (b : Int))) (.int .i64 ((a : Int) + (b : Int)))).run Tryd.prog W = .ok (.slice (some ⟨W.heap.size, 0, none⟩) (a + b) (a + b)) (W.alloc (.cells (madeCells #[.int .u8 0] (a + b)) 5)) := by
  have hi : ∃ i, Tryd.prog.info? 5 = some i ∧ i.zero = some (.int .u8 0) ∧ i.size = 1 ∧ i.bytes = 1 := by
    have h0 : (Tryd.prog.info? 5).map (fun i => (i.zero, i.size, i.bytes)) = some (some (.int .u8 0), 1, 1) := by kernel_rfl
    obtain ⟨i, hi, hz⟩ := Option.map_eq_some_iff.1 h0
    simp only [Prod.mk.injEq] at hz
    exact ⟨i, hi, hz.1, hz.2.1, hz.2.2⟩
  obtain ⟨i, hi, hz, hs, hb⟩ := hi
  have e : ((a : Int) + (b : Int)) = ((a + b : Nat) : Int) := by omega
  rw [e, run_make (P := Tryd.prog) (w := W) 45 5 i (.int .u8 0) Tryd.underlying45 hi hz .i64 .i64 _ _ (by omega) (by omega) (by rw [hb]; omega) (by omega)]
  rw [Int.toNat_natCast, hs, Nat.mul_one]
  rfl
set_option maxRecDepth 100000 in
set_option maxHeartbeats 1000000 in
theorem add {w : World} {av : Nat → Prop} {f : Nat} {l l2 : List UInt8} {a c : Int} {p : Nat → Addr} {av2 : Nat → Prop} {v2 : Value} (h : FS w av f l a c p) (h2 : RB w av2 v2 l2) (hn : ∀ k, w.heap.size ≤ k → av k) (hm : l.length + l2.length ≤ 100000000) :
    Calls Tryd.prog 21 #[.pointer (some ⟨f, 0, none⟩), v2] w fun e w' => (∃ v, e = .returned v) ∧ w.grownBy w' (some f) ∧ FS w' av f (l ++ l2) a c p := by
  obtain ⟨v, ev, hb, ⟨A, cp, rfl, hc, hcm, hx⟩, he⟩ := h
  obtain ⟨A2, cp2, rfl, hc2, hcm2, hx2⟩ := h2
  have c0 : w.cell? ⟨f, 0, none⟩ = some (.slice A l.length cp) := cel hb 0 rfl
  have hlt : f < w.heap.size := (Array.getElem?_eq_some_iff.1 hb).1
  have HB := Aside.mk hb
  have HX := Aside.mk hx
  have HX2 := Aside.mk hx2
  have HE := Aside.mk he
  have HM := Aside.mk hm
  clear hb hx hx2 he hcm hcm2
  have hmk : ∀ W : World, (Instr.makeSlice 45 (.int .i64 ((l.length : Int) + (l2.length : Int))) (.int .i64 ((l.length : Int) + (l2.length : Int)))).run Tryd.prog W = .ok (.slice (some ⟨W.heap.size, 0, none⟩) (l.length + l2.length) (l.length + l2.length)) (W.alloc (.cells (madeCells #[.int .u8 0] (l.length + l2.length)) 5)) := made _ _ (by omega)
  have hmi : (l.length : Int) + (l2.length : Int) ≤ 100000000 := by omega
  clear hm
  go_enter Tryd.func21, Tryd.ntmps21
  have hlo := fun (W : World) => run_low (some ⟨w.heap.size, 0, none⟩) (l.length + l2.length) (l.length + l2.length) l.length (by omega) W
  have e0 : l.length + l2.length - l.length = l2.length := by omega
  rw [e0] at hlo
  clear e0
  obtain ⟨A3, hA3⟩ : ∃ A3, A3 = (if l.length + l2.length = l.length then some (⟨w.heap.size, 0, none⟩ : Addr) else (some (⟨w.heap.size, 0, none⟩ : Addr)).map (·.add l.length)) := ⟨_, rfl⟩
  rw [← hA3] at hlo
  have HA3 := Aside.mk hA3
  clear hA3
  have z0 : (madeCells #[.int .u8 0] (l.length + l2.length)).toList.length = l.length + l2.length := by rw [Array.length_toList, size_madeCells]
  have hsz : (Tryd.prog.info? 5).map (·.size) = some 1 := by kernel_rfl
  have HZ := Aside.mk z0
  have HS := Aside.mk hsz
  clear z0 hsz
  have P2 := Aside.mk (show (w.alloc (.cells (madeCells #[.int .u8 0] (l.length + l2.length)) 5)).heap[w.heap.size]? = some (.cells (madeCells #[.int .u8 0] (l.length + l2.length)).toList.toArray 5 (0, 0)) by rw [Array.toArray_toList]; exact World.alloc_heap_new _ _)
  have P3 := Aside.mk (show (u8s l).length = Nat.min l.length (l.length + l2.length) by rw [u8s_length]; exact (Nat.min_eq_left (by omega)).symm)
  have P4 := Aside.mk (src HX.out (below_new w (.cells (madeCells #[.int .u8 0] (l.length + l2.length)) 5)) (some ⟨w.heap.size, 0, none⟩) w.heap.size 0 (fun _ => rfl))
  have P5 := Aside.mk (show 0 + (u8s l).length ≤ (madeCells #[.int .u8 0] (l.length + l2.length)).toList.length by rw [u8s_length, HZ.out]; omega)
  have P6 := Aside.mk (below_new w (.cells (madeCells #[.int .u8 0] (l.length + l2.length)) 5))
  go_wp2_with (refine wpList_copy_splice rfl (.tmp 15) (.tmp 19) 45 45 rfl 5 Tryd.underlying45 HS.out _ _ _ _ _ _ rfl rfl w.heap.size 0 (madeCells #[.int .u8 0] (l.length + l2.length)).toList 5 P2.out (u8s l) P3.out P4.out P5.out (u8s_one l) w.heap.size w P6.out (Nat.le_refl _) ?_)
  intro w1 hh1 hb1
  simp only [u8s_length] at *
  have HB1 := Aside.mk hb1
  have HH1 := Aside.mk hh1.out
  have d0 := cell_below c0 hb1
  clear hb1 hh1 c0
  have R3 := Aside.mk (show (u8s l2).length = Nat.min l2.length l2.length by rw [u8s_length]; exact (Nat.min_self _).symm)
  have R4 := Aside.mk (src HX2.out HB1.out A3 w.heap.size l.length (fun h => by rw [u8s_length] at h; rw [HA3.out, if_neg (by omega)]; exact congrArg some (add_plain _ _)))
  have R5 := Aside.mk (show l.length + (u8s l2).length ≤ (splice (madeCells #[.int .u8 0] (l.length + l2.length)).toList 0 (u8s l)).length by rw [length_splice _ _ _ (by rw [u8s_length, HZ.out]; omega), u8s_length, HZ.out]; omega)
  go_wp2_with (refine wpList_copy_splice rfl (.tmp 21) (.tmp 22) 45 45 rfl 5 Tryd.underlying45 HS.out _ _ _ _ _ _ rfl rfl w.heap.size l.length (splice (madeCells #[.int .u8 0] (l.length + l2.length)).toList 0 (u8s l)) 5 HH1.out (u8s l2) R3.out R4.out R5.out (u8s_one l2) w.heap.size w HB1.out (Nat.le_refl _) ?_)
  intro w2 hh2 hb2
  have hh3 := hh2.out
  rw [splice2 l l2 _ HZ.out] at hh3
  have HB2 := Aside.mk hb2
  have HH2 := Aside.mk hh3
  have hf2 := blk_below HB.out hb2
  have f0 := frz hf2 0
  have c0 : w2.cell? ⟨f, 0, none⟩ = some (.slice A l.length cp) := cel hf2 0 rfl
  have HF2 := Aside.mk hf2
  clear hb2 hh2 hh3 d0 hf2
  go_wp2
  go_end0
  refine ⟨⟨_, rfl⟩, grown_trans (grown_of_below HB2.out _) (set_grown _ _ _ _), _, ev, set_blk HF2.out 0 _, ?_, HE.out⟩
  have hne : w.heap.size ≠ f := by omega
  refine ⟨some ⟨w.heap.size, 0, none⟩, l.length + l2.length, by rw [List.length_append], by rw [List.length_append]; exact Nat.le_refl _, Nat.le_trans HM.out (by unfold maxLen; omega), fun _ => ⟨w.heap.size, 0, rfl, ⟨hn _ (Nat.le_refl _), hne⟩, fun j u hu => ?_⟩⟩
  refine cell_grown (cel HH2.out (0 + j) ?_) (set_grown _ _ _ _) (by simpa using hne)
  rw [Nat.zero_add, List.getElem?_toArray, u8s_get, hu]
  rfl
end Go.Proofs.YtglmnglaliljdaaDoor.Frame
