/- frame.(*buffer).drop, long. Conditions: the shape of memory that each theorem names. -/
import Derived.Test.YtglmnglaliljdaaDoorFrameB
import Derived.Lib.ConvBytes
namespace Go.Proofs.YtglmnglaliljdaaDoor.Frame
open Go.RowKit Size
set_option linter.unusedVariables false
theorem run_cut3 (A : Option Addr) (n c m : Nat) (hm : m ≤ n) (hc : n ≤ c) (W : World) : (Instr.slice 45 (.slice A n c) (some (.int .i64 (m : Int))) (some (.int .i64 (n : Int))) (some (.int .i64 (n : Int)))).run Tryd.prog W = .ok (.slice (if n = m then A else A.map (·.add m)) (n - m) (n - m)) W := by
  have hi : ∃ i, Tryd.prog.info? 5 = some i ∧ i.size = 1 := by
    have h0 : (Tryd.prog.info? 5).map (fun i => (i.zero, i.size, i.bytes)) = some (some (.int .u8 0), 1, 1) := by kernel_rfl
    obtain ⟨i, hi, hz⟩ := Option.map_eq_some_iff.1 h0
    simp only [Prod.mk.injEq] at hz
    exact ⟨i, hi, hz.2.1⟩
  obtain ⟨i, hi, hs⟩ := hi
  have hel : Tryd.prog.elem 45 = 5 := by kernel_rfl
  have hu : Tryd.prog.underlying 45 = some (.slice (Tryd.prog.elem 45)) := by rw [hel]; exact Tryd.underlying45
  rw [run_slice_lhm W 45 A n c hu .i64 .i64 .i64 (m : Int) (n : Int) (n : Int) (Int.natCast_nonneg _) (by omega) (by omega) (by omega), hel]
  simp [sizeOf, typeInfo, hi, hs, sliced, Result.andThen]
set_option maxRecDepth 100000 in
set_option maxHeartbeats 1000000 in
theorem drop {w : World} {av : Nat → Prop} {f : Nat} {l : List UInt8} {a c : Int} {p : Nat → Addr} (h : FS w av f l a c p) (n : Nat) (hn : n ≤ l.length) (ha : 0 ≤ a) (ha2 : a + n ≤ 1000000000) :
    Calls Tryd.prog 31 #[.pointer (some ⟨f, 0, none⟩), .int .i64 (n : Int)] w fun e w' => (∃ v, e = .returned v) ∧ w.grownBy w' (some f) ∧ FS w' av f (l.drop n) (a + n) c p := by
  obtain ⟨v, ev, hb, ⟨A, cp, rfl, hc, hcm, hx⟩, he⟩ := h
  have c0 : w.cell? ⟨f, 0, none⟩ = some (.slice A l.length cp) := cel hb 0 rfl
  have c1 : w.cell? ⟨f, 1, none⟩ = some (.int .i64 a) := cel hb 1 rfl
  have f0 := frz hb 0
  have f1 := frz hb 1
  have HB := Aside.mk hb
  have HX := Aside.mk hx
  have HE := Aside.mk he
  have HN := Aside.mk hn
  obtain ⟨A3, hA3⟩ : ∃ A3, A3 = (if l.length = n then A else A.map (·.add n)) := ⟨_, rfl⟩
  have hlo := fun (W : World) => run_cut3 A l.length cp n hn hc W
  rw [← hA3] at hlo
  have HA3 := Aside.mk hA3
  have HCM := Aside.mk hcm
  clear hb hx he hn hA3 hcm
  go_enter Tryd.func31, Tryd.ntmps31
  go_wp2
  go_region
  obtain ⟨w1, hw1⟩ : ∃ w1, w1 = w.setCell ⟨f, 0, none⟩ (.slice A3 (l.length - n) (l.length - n)) := ⟨_, rfl⟩
  have G1 := Aside.mk (set_grown w f 0 (.slice A3 (l.length - n) (l.length - n)))
  have B1 := Aside.mk (set_blk HB.out 0 (.slice A3 (l.length - n) (l.length - n)))
  rw [← hw1] at G1 B1 ⊢
  clear hw1 c0 c1 f0 f1
  have c1 : w1.cell? ⟨f, 1, none⟩ = some (.int .i64 a) := cel B1.out 1 rfl
  have f1 := frz B1.out 1
  go_wp2
  go_end0
  have hg : w.grownBy ((w1.setCell ⟨f, 1, none⟩ (.int .i64 (a + n))).drew) (some f) := grown_drew (grown_trans G1.out (set_grown _ _ _ _))
  refine ⟨⟨_, rfl⟩, hg, _, ev, set_blk B1.out 1 _, ?_, HE.out⟩
  refine ⟨A3, l.length - n, by rw [List.length_drop], by rw [List.length_drop]; exact Nat.le_refl _, Nat.le_trans (Nat.sub_le _ _) (Nat.le_trans hc HCM.out), fun hne => ?_⟩
  have hlt : n < l.length := by
    have h0 := List.length_pos_iff.2 hne
    rw [List.length_drop] at h0
    omega
  obtain ⟨b, o, e, hav, hcl⟩ := HX.out (by rintro rfl; simp at hlt)
  refine ⟨b, o + n, ?_, hav, fun j u hu => ?_⟩
  · rw [HA3.out, if_neg (by omega), e]
    refine congrArg some ?_
    show (⟨b, o, none⟩ : Addr).add n = _
    unfold Addr.add; split <;> simp_all
  · rw [List.getElem?_drop] at hu
    have h1 := hcl (n + j) u hu
    rw [← Nat.add_assoc] at h1
    exact cell_grown h1 hg (by simpa using hav.2)
end Go.Proofs.YtglmnglaliljdaaDoor.Frame
