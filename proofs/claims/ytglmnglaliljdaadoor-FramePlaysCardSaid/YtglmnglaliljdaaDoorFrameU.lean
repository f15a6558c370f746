/- latinerlaw14.Few: the first thirty texts, each cut. Conditions: the texts read. -/
import Derived.Test.YtglmnglaliljdaaDoorFrameS
import Derived.Test.YtglmnglaliljdaaDoorFrameW
namespace Go.Proofs.YtglmnglaliljdaaDoor.Frame
open Go.RowKit Size
set_option linter.unusedVariables false
/-- a slice of texts that reads as a list, wherever it lies -/
def RT (w : World) (v : Value) (zs : List ByteArray) : Prop :=
  ∃ A c, v = .slice A zs.length c ∧ (zs ≠ [] → ∃ ad, A = some ad ∧ ∀ j z, zs[j]? = some z → w.cell? (ad.add j) = some (.string z)) ∧ ∀ z ∈ zs, z.size ≤ maxLen
set_option maxRecDepth 100000 in
theorem few (v : Value) (zs : List ByteArray) (w : World) (hv : RT w v zs) :
    Calls Tryd.prog 8 #[v] w fun e w' => ∃ v', e = .returned v' ∧ Own w' w.heap.size v' ((zs.map cutS).take 30) ∧ Below w.heap.size w w' := by
  obtain ⟨A, c, rfl, hzs, hsz⟩ := hv
  have HZ := Aside.mk hzs
  have HS := Aside.mk hsz
  clear hzs hsz
  have KK : min zs.length 30 ≤ 30 := Nat.min_le_right _ _
  generalize hKd : min zs.length 30 = K at KK
  have HK := Aside.mk hKd
  clear hKd
  go_enter Tryd.func8, Tryd.ntmps8
  go_wp2_with fail
  go_loopg [3, 4] K (fun gk v3 v4 wr => ∃ (k : Nat), v4 = .int .i64 k ∧ Aside (k + gk = K ∧ Own wr w.heap.size v3 ((zs.map cutS).take k) ∧ Below w.heap.size w wr))
  case atStart => exact ⟨0, rfl, ⟨by omega, (World.ownsRow_nil _ _ _ _ : Own w w.heap.size _ []), Below.refl _ _⟩⟩
  case round =>
    obtain ⟨k, rfl, HI⟩ := hrel
    obtain ⟨i1, i2, i3⟩ := HI.out
    clear HI
    have I2 := Aside.mk i2
    have I3 := Aside.mk i3
    clear i2 i3
    by_cases hk : k < K
    · obtain ⟨m, rfl⟩ : ∃ m, gk = m + 1 := ⟨gk - 1, by omega⟩
      have hkz : k < zs.length := by have := HK.out; omega
      have hk30 : (k : Int) < 30 := by omega
      have hkzi : (k : Int) < (zs.length : Int) := by omega
      obtain ⟨ad, rfl, hc⟩ := HZ.out (by intro e; rw [e] at hkz; simp at hkz)
      have ck := cell_below (hc k zs[k] (List.getElem?_eq_getElem hkz)) I3.out
      have hz := HS.out zs[k] (List.getElem_mem hkz)
      have HT := Aside.mk (show (zs.map cutS).take (k + 1) = (zs.map cutS).take k ++ [cutS zs[k]] by rw [List.take_succ_eq_append_getElem (by simpa using hkz)]; simp)
      generalize zs[k] = z at ck hz HT
      clear hc
      go_wp2_with fail
      refine (cut z wr hz).mono ?_
      rintro e wr ⟨rfl, rfl⟩
      generalize cutS z = y at HT ⊢
      have hal := Aside.mk (below_new wr (.cells #[.string y] 9))
      have J1 := Aside.mk (show Own (wr.alloc (.cells #[.string y] 9)) w.heap.size u3 ((zs.map cutS).take k) from World.ownsRow.alloc I2.out _)
      have J2 := Aside.mk (rs_lit wr y)
      have hsw : w.heap.size ≤ wr.heap.size := I3.out.size
      clear ck hz
      go_wp2_with (refine wpList_texts rfl (.tmp 15) (.tmp 21) rfl rfl J1.out rfl J2.out (by simp; omega) (by simp; omega) ?_)
      intro v' w6 hown hgrow hblk
      rw [← HT.out] at hown
      have L1 := Aside.mk hown
      have L2 := Aside.mk hgrow
      clear hown hgrow hblk
      go_wp2
      go_roundg m
      case measure => omega
      case rel =>
        refine ⟨k + 1, by go_num, ⟨by omega, L1.out, ?_⟩⟩
        have h1 := below_then I3.out hal.out
        exact ⟨L2.out.os.trans h1.os, L2.out.tape.trans h1.tape, L2.out.output.trans h1.output, Nat.le_trans h1.size L2.out.size, fun i hi => (L2.out.block i (Nat.lt_of_lt_of_le hi h1.size) (fun e => by have := (own_base J1.out i e.symm).1; omega)).trans (h1.block i hi)⟩
    · have hkK : (zs.map cutS).take k = (zs.map cutS).take 30 := by
        have := HK.out
        rcases Nat.lt_or_ge zs.length 30 with h | h
        · rw [List.take_of_length_le (by rw [List.length_map]; omega), List.take_of_length_le (by rw [List.length_map]; omega)]
        · rw [show k = 30 by omega]
      have HKK := Aside.mk hkK
      have hkq : (zs.length ≤ k ∧ (zs.length : Int) ≤ (k : Int)) ∨ (k < zs.length ∧ (k : Int) < (zs.length : Int) ∧ (30 : Int) ≤ (k : Int) ∧ 30 ≤ k) := by have := HK.out; omega
      clear hk i1 hkK
      rcases hkq with ⟨hq, hqi⟩ | ⟨hq, hqi, hq2, hq3⟩
      all_goals
        go_wp2
        go_ret
        exact ⟨_, rfl, by rw [← HKK.out]; exact I2.out, I3.out⟩
end Go.Proofs.YtglmnglaliljdaaDoor.Frame
