/- Plain facts: how few bytes a Framer keeps. No conditions. -/
import Derived.Test.YtglmnglaliljdaaDoorFrameP
namespace Go.Proofs.YtglmnglaliljdaaDoor.Frame
open Go.RowKit Size
set_option linter.unusedVariables false
theorem more_short (l : List UInt8) (h : (longOf l).2 = 1) : l.length ≤ 5 := by
  cases l with
  | nil => simp
  | cons u r =>
    unfold longOf at h
    rw [if_neg (by simp)] at h
    by_cases h1 : bt (hdr (u :: r)) 0 ≠ 48
    · rw [if_pos h1] at h; simp at h
    · rw [if_neg h1] at h
      have hs := hdr_size (u :: r)
      have hr := bt_range (hdr (u :: r)) 1
      rcases Nat.lt_or_ge (u :: r).length 6 with h6 | h6
      · omega
      · exfalso
        have h10 : (dec (hdr (u :: r)) 1).2.2 ≠ 10 := by
          unfold dec
          rw [if_neg (by rw [hs]; omega)]
          split
          · simp
          · split
            · simp
            · rw [if_neg (by rw [hs]; omega)]
              split <;> simp
        rcases dec_code (hdr (u :: r)) 1 with e | e | e | e
        · rw [if_pos e] at h
          split at h <;> simp at h
        · exact h10 e
        · rw [if_neg (by omega), if_neg (by omega), if_pos e] at h; simp at h
        · rw [if_neg (by omega), if_pos e] at h; simp at h
theorem run_rest : ∀ (n : Nat) (l : List UInt8), l.length < n → (run n l).2.2.2 = 1 → (run n l).2.1.length ≤ 4005
  | 0, l, h, _ => by omega
  | n + 1, l, h, hc => by
    unfold run at hc ⊢
    by_cases h1 : (longOf l).2 ≠ 0
    · rw [if_pos h1] at hc ⊢
      have := more_short l hc
      dsimp only
      omega
    · rw [if_neg h1] at hc ⊢
      have hz := longOf_zero l (by omega)
      by_cases h2 : l.length < (longOf l).1.toNat
      · rw [if_pos h2] at hc ⊢
        dsimp only
        omega
      · rw [if_neg h2] at hc ⊢
        exact run_rest n _ (by rw [List.length_drop]; omega) hc
theorem fed_rest (l : List UInt8) (a c : Int) (s : ByteArray) (hl : l.length ≤ 4005) : (feedSt l a c s).2.1.length ≤ 4005 := by
  unfold feedSt
  by_cases hc : c ≠ 0
  · rw [if_pos hc]; exact hl
  · rw [if_neg hc]
    dsimp only
    by_cases h1 : codeOf (fed l s).2.2.2 ≠ 0
    · rw [if_pos h1]; simp
    · rw [if_neg h1]
      have hs : s.data.toList.length = s.size := by rw [Array.length_toList]; rfl
      have hlt : (l ++ s.data.toList).length < l.length + s.size + 1 := by rw [List.length_append, hs]; omega
      refine run_rest _ _ hlt ?_
      have hne : (fed l s).2.2.2 = 1 ∨ (fed l s).2.2.2 = 0 := by
        unfold codeOf at h1
        split at h1
        · exact .inl (by assumption)
        · exact .inr (by omega)
      rcases hne with e | e
      · exact e
      · exfalso
        have hrc : ∀ (n : Nat) (l : List UInt8), (run n l).2.2.2 ≠ 0 := by
          intro n
          induction n with
          | zero => intro l; simp [run]
          | succ n ih =>
            intro l
            unfold run
            by_cases h3 : (longOf l).2 ≠ 0
            · rw [if_pos h3]; exact h3
            · rw [if_neg h3]
              by_cases h4 : l.length < (longOf l).1.toNat
              · rw [if_pos h4]; show (1 : Int) ≠ 0; decide
              · rw [if_neg h4]; exact ih _
        exact hrc _ _ e
end Go.Proofs.YtglmnglaliljdaaDoor.Frame
