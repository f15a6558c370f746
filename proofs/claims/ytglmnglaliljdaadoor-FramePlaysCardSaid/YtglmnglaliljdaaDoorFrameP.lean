/- Plain facts on the pieces of some bytes. No conditions. -/
import Derived.Test.YtglmnglaliljdaaDoorFrameI
namespace Go.Proofs.YtglmnglaliljdaaDoor.Frame
open Go.RowKit Size
set_option linter.unusedVariables false
theorem longOf_zero (l : List UInt8) (h : (longOf l).2 = 0) : 2 ≤ (longOf l).1 ∧ (longOf l).1 ≤ 4006 ∧ l.head? = some 48 := by
  have hr := dec_range (hdr l) 1 (by omega)
  cases l with
  | nil => simp [longOf] at h
  | cons u r =>
    unfold longOf at h ⊢
    rw [if_neg (by simp)] at h ⊢
    rw [hdr_bt] at h ⊢
    by_cases hu : (u.toNat : Int) ≠ 48
    · rw [if_pos hu] at h; simp at h
    · rw [if_neg hu] at h ⊢
      by_cases h0 : (dec (hdr (u :: r)) 1).2.2 = 0
      · rw [if_pos h0] at h ⊢
        by_cases h4 : (dec (hdr (u :: r)) 1).1 ≤ 4000
        · rw [if_pos h4]
          refine ⟨by simp; omega, by simp; omega, ?_⟩
          simp only [List.head?_cons, Option.some.injEq]
          exact UInt8.toNat_inj.1 (by show u.toNat = 48; omega)
        · rw [if_neg h4] at h; simp at h
      · rw [if_neg h0] at h
        split at h
        · simp at h
        · split at h <;> simp at h
theorem run_parts : ∀ (n : Nat) (l : List UInt8), l.length < n → (run n l).1.flatten ++ (run n l).2.1 = l ∧ (run n l).2.2.1 = (run n l).1.flatten.length ∧ ∀ x ∈ (run n l).1, 2 ≤ x.length ∧ x.length ≤ 4006 ∧ x.head? = some 48
  | 0, l, h => by omega
  | n + 1, l, h => by
    unfold run
    by_cases h1 : (longOf l).2 ≠ 0
    · rw [if_pos h1]; simp
    · rw [if_neg h1]
      by_cases h2 : l.length < (longOf l).1.toNat
      · rw [if_pos h2]; simp
      · rw [if_neg h2]
        obtain ⟨a, b, c⟩ := longOf_zero l (by omega)
        have hd : (l.drop (longOf l).1.toNat).length < n := by rw [List.length_drop]; omega
        obtain ⟨i1, i2, i3⟩ := run_parts n (l.drop (longOf l).1.toNat) hd
        have hl : (l.take (longOf l).1.toNat).length = (longOf l).1.toNat := by rw [List.length_take]; omega
        refine ⟨?_, ?_, ?_⟩
        · rw [List.flatten_cons, List.append_assoc, i1, List.take_append_drop]
        · rw [List.flatten_cons, List.length_append, hl, i2]
        · intro x hx
          rcases List.mem_cons.1 hx with rfl | hx
          · refine ⟨by omega, by omega, ?_⟩
            rw [List.head?_take, if_neg (by omega)]
            exact c
          · exact i3 x hx
/-- what Feed of a clean Framer tells -/
theorem clean_facts (t : ByteArray) (P : List (List UInt8)) (K : List UInt8) (T E : Int) (h : feedSt [] 0 0 t = (P, K, T, E)) :
    T = (P.flatten.length : Int) ∧ P.flatten.length ≤ t.size ∧ t.data.toList.take P.flatten.length = P.flatten ∧ (∀ x ∈ P, 2 ≤ x.length ∧ x.length ≤ 4006 ∧ x.head? = some 48) ∧ (E ≠ 0 → K = []) ∧ (E = 0 → P.flatten.length + K.length = t.size) := by
  unfold feedSt at h
  rw [if_neg (by simp)] at h
  have hl : t.data.toList.length = t.size := by rw [Array.length_toList]; rfl
  obtain ⟨a, b, c⟩ := run_parts (t.size + 1) t.data.toList (by omega)
  have hf : fed [] t = run (t.size + 1) t.data.toList := by simp [fed]
  rw [hf] at h
  simp only [Prod.mk.injEq] at h
  obtain ⟨rfl, h2, h3, h4⟩ := h
  have hlen := congrArg List.length a
  rw [List.length_append, hl] at hlen
  refine ⟨by rw [← h3, b]; omega, by omega, ?_, c, ?_, ?_⟩
  · have h5 := congrArg (List.take (run (t.size + 1) t.data.toList).1.flatten.length) a
    rw [List.take_left] at h5
    exact h5.symm
  · intro hE
    rw [← h2, if_pos (by rw [h4]; exact hE)]
  · intro hE
    rw [← h2, if_neg (by rw [h4]; simpa using hE)]
    exact hlen
end Go.Proofs.YtglmnglaliljdaaDoor.Frame
