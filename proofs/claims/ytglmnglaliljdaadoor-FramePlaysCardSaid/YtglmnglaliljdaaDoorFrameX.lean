/- latinerref14.(*Framer).Feed: it tells what the program's Feed tells. Conditions: the shape of memory that each theorem names. -/
import Derived.Test.YtglmnglaliljdaaDoorFrameV
import Derived.Test.YtglmnglaliljdaaDoorFrameR
import Derived.Test.YtglmnglaliljdaaDoorFrameQ
import Derived.Test.YtglmnglaliljdaaDoorMinMax
namespace Go.Proofs.YtglmnglaliljdaaDoor.Frame
open Go.RowKit Size
set_option linter.unusedVariables false
theorem bt_hdr (l : List UInt8) (i : Nat) (h : i < l.length) (h6 : i < 6) : bt (hdr l) (i : Int) = bt ⟨l.toArray⟩ (i : Int) := by
  have h1 := bt_pre (l.take 6) (l.drop 6) i (by rw [List.length_take]; omega)
  rw [List.take_append_drop] at h1
  exact h1.symm
theorem lf_hdr (l : List UInt8) (k a : Nat) (h : a + k ≤ l.length) (h6 : a + k ≤ 6) : lf (hdr l) (a : Int) k = lf ⟨l.toArray⟩ (a : Int) k := by
  have h1 := lf_pre (l.take 6) (l.drop 6) k a (by rw [List.length_take]; omega)
  rw [List.take_append_drop] at h1
  exact h1.symm
/-- look answers what longOf says -/
theorem look_longOf (l : List UInt8) : lookB ⟨l.toArray⟩ = if (longOf l).2 = 1 then (0, 0) else ((longOf l).1, (longOf l).2) := by
  unfold lookB
  rw [size_list]
  cases l with
  | nil => rfl
  | cons u r =>
    have hb0 : bt ⟨(u :: r).toArray⟩ 0 = u.toNat := bt_list (u :: r) 0 u rfl
    unfold longOf
    rw [if_neg (by simp), if_neg (show ¬ (u :: r = []) by simp), hdr_bt, hb0]
    by_cases h1 : (u.toNat : Int) ≠ 48
    · rw [if_pos h1, if_pos h1]; rfl
    · rw [if_neg h1, if_neg h1]
      have hs := hdr_size (u :: r)
      have hr := bt_range ⟨(u :: r).toArray⟩ 1
      by_cases h2 : (u :: r).length < 2
      · have e : (dec (hdr (u :: r)) 1).2.2 = 10 := by unfold dec; rw [if_pos (by rw [hs]; omega)]
        rw [if_pos h2, e]
        rfl
      · rw [if_neg h2]
        have hb1 := bt_hdr (u :: r) 1 (by omega) (by omega)
        rw [show ((1 : Nat) : Int) = 1 from rfl] at hb1
        have hd : ¬ ((hdr (u :: r)).size : Int) ≤ 1 := by rw [hs]; omega
        by_cases h3 : bt ⟨(u :: r).toArray⟩ 1 < 128
        · have e : dec (hdr (u :: r)) 1 = (bt ⟨(u :: r).toArray⟩ 1, 2, 0) := by unfold dec; rw [if_neg hd, hb1, if_pos h3]; rfl
          rw [if_pos h3, e]
          have h40 : bt ⟨(u :: r).toArray⟩ 1 ≤ 4000 := by omega
          simp [h40]
        · rw [if_neg h3]
          by_cases h4 : bt ⟨(u :: r).toArray⟩ 1 = 128 ∨ 132 < bt ⟨(u :: r).toArray⟩ 1
          · have e : dec (hdr (u :: r)) 1 = (0, 0, 11) := by unfold dec; rw [if_neg hd, hb1, if_neg h3, if_pos h4]
            rw [if_pos h4, e]
            rfl
          · rw [if_neg h4]
            by_cases h5 : (((u :: r).length : Nat) : Int) < 2 + (bt ⟨(u :: r).toArray⟩ 1 - 128)
            · have e : (dec (hdr (u :: r)) 1).2.2 = 10 := by unfold dec; rw [if_neg hd, hb1, if_neg h3, if_neg h4, if_pos (by rw [hs]; omega)]
              rw [if_pos h5, e]
              rfl
            · have hl := lf_hdr (u :: r) (bt ⟨(u :: r).toArray⟩ 1 - 128).toNat 2 (by omega) (by omega)
              rw [show ((2 : Nat) : Int) = 1 + 1 from rfl] at hl
              have e : dec (hdr (u :: r)) 1 = if 16777215 < lf ⟨(u :: r).toArray⟩ 2 (bt ⟨(u :: r).toArray⟩ 1 - 128).toNat then (0, 0, 12) else (lf ⟨(u :: r).toArray⟩ 2 (bt ⟨(u :: r).toArray⟩ 1 - 128).toNat, 2 + (bt ⟨(u :: r).toArray⟩ 1 - 128), 0) := by
                unfold dec
                rw [if_neg hd, hb1, if_neg h3, if_neg h4, if_neg (by rw [hs]; omega), hl]
                rfl
              rw [if_neg h5, e]
              by_cases h6 : 16777215 < lf ⟨(u :: r).toArray⟩ 2 (bt ⟨(u :: r).toArray⟩ 1 - 128).toNat
              · have h64 : 4000 < lf ⟨(u :: r).toArray⟩ 2 (bt ⟨(u :: r).toArray⟩ 1 - 128).toNat := by omega
                rw [if_pos h6, if_pos h64]
                rfl
              · rw [if_neg h6]
                by_cases h7 : 4000 < lf ⟨(u :: r).toArray⟩ 2 (bt ⟨(u :: r).toArray⟩ 1 - 128).toNat
                · have h74 : ¬ lf ⟨(u :: r).toArray⟩ 2 (bt ⟨(u :: r).toArray⟩ 1 - 128).toNat ≤ 4000 := by omega
                  rw [if_pos h7]
                  simp [h74]
                · have h74 : lf ⟨(u :: r).toArray⟩ 2 (bt ⟨(u :: r).toArray⟩ 1 - 128).toNat ≤ 4000 := by omega
                  rw [if_neg h7]
                  simp [h74]
end Go.Proofs.YtglmnglaliljdaaDoor.Frame
