/- Plain facts on a length that is encoded, and what a Framer tells of it. No conditions. -/
import Derived.Test.YtglmnglaliljdaaDoorEncE
import Derived.Test.YtglmnglaliljdaaDoorFrameP
namespace Go.Proofs.YtglmnglaliljdaaDoor.Frame
open Go.RowKit Size
set_option linter.unusedVariables false
def valr : List UInt8 → Int
  | [] => 0
  | u :: r => u.toNat + 256 * valr r
theorem valr_parts : ∀ (k n : Nat), n < 256 ^ k → valr (partsOf k n) = n
  | 0, n, h => by simp at h; subst h; rfl
  | k + 1, n, h => by
    unfold partsOf
    by_cases h0 : n = 0
    · rw [if_pos h0, h0]; rfl
    · rw [if_neg h0]
      have h2 : n / 256 < 256 ^ k := by rw [Nat.pow_succ] at h; omega
      have ih := valr_parts k (n / 256) h2
      show ((UInt8.ofNat (n % 256)).toNat : Int) + 256 * valr (partsOf k (n / 256)) = n
      rw [ih, UInt8.toNat_ofNat']
      omega
theorem parts_len : ∀ (j k n : Nat), n < 256 ^ j → (partsOf k n).length ≤ j
  | _, 0, n, h => by simp [partsOf]
  | 0, k + 1, n, h => by simp at h; subst h; simp [partsOf]
  | j + 1, k + 1, n, h => by
    unfold partsOf
    split
    · simp
    · have h2 : n / 256 < 256 ^ j := by rw [Nat.pow_succ] at h; omega
      have := parts_len j k (n / 256) h2
      rw [List.length_cons]; omega
theorem parts_pos (k n : Nat) (h : n ≠ 0) : 1 ≤ (partsOf (k + 1) n).length := by unfold partsOf; rw [if_neg h]; simp
theorem lf_valr (s : ByteArray) (a : Int) : ∀ (R : List UInt8), (∀ (i : Nat) (u : UInt8), R.reverse[i]? = some u → bt s (a + (i : Int)) = u.toNat) → lf s a R.length = valr R
  | [], _ => rfl
  | u :: R, h => by
    have h1 := lf_valr s a R (fun i v hv => h i v (by
      rw [List.reverse_cons, List.getElem?_append_left (List.getElem?_eq_some_iff.1 hv).1]
      exact hv))
    have h2 := h R.length u (by
      rw [List.reverse_cons, List.getElem?_append_right (by simp)]
      simp)
    show lf s a R.length * 256 + bt s (a + R.length) = _
    rw [h1, h2]
    show valr R * 256 + (u.toNat : Int) = (u.toNat : Int) + 256 * valr R
    omega
theorem bt_list (l : List UInt8) (i : Nat) (u : UInt8) (h : l[i]? = some u) : bt ⟨l.toArray⟩ (i : Int) = u.toNat := by
  obtain ⟨hi, rfl⟩ := List.getElem?_eq_some_iff.1 h
  have h0 : (i : Int).toNat < (⟨l.toArray⟩ : ByteArray).size := by show i < l.toArray.size; simpa using hi
  unfold bt
  rw [dif_pos h0]
  rfl
theorem encL_len (n : Int) (h0 : 0 ≤ n) (h1 : n ≤ 16777215) : 1 ≤ (encL n).length ∧ (encL n).length ≤ 4 := by
  unfold encL
  split
  · simp
  · have := parts_len 3 4 n.toNat (by omega)
    simp
    omega
theorem dec_enc (n : Int) (h0 : 0 ≤ n) (h1 : n ≤ 16777215) : dec (hdr (48 :: encL n)) 1 = (n, 1 + ((encL n).length : Int), 0) := by
  have hl := encL_len n h0 h1
  have ht : hdr (48 :: encL n) = ⟨(48 :: encL n).toArray⟩ := by
    unfold hdr
    rw [List.take_of_length_le (by rw [List.length_cons]; omega)]
  have hs : (⟨(48 :: encL n).toArray⟩ : ByteArray).size = 1 + (encL n).length := by show (48 :: encL n).toArray.size = _; simp; omega
  rw [ht]
  unfold dec
  rw [hs, if_neg (by omega)]
  by_cases h : n < 128
  · have e : encL n = [UInt8.ofNat n.toNat] := by unfold encL; rw [if_pos h]
    have hb := bt_list (48 :: encL n) 1 (UInt8.ofNat n.toNat) (by rw [e]; rfl)
    have hx : ((UInt8.ofNat n.toNat).toNat : Int) = n := by rw [UInt8.toNat_ofNat']; omega
    rw [hx] at hb
    rw [show ((1 : Nat) : Int) = 1 from rfl] at hb
    rw [hb, if_pos h, e]
    rfl
  · have e : encL n = UInt8.ofNat (128 + (partsOf 4 n.toNat).length) :: (partsOf 4 n.toNat).reverse := by unfold encL; rw [if_neg h]
    have hk3 := parts_len 3 4 n.toNat (by omega)
    have hk1 : 1 ≤ (partsOf 4 n.toNat).length := parts_pos 3 n.toNat (by omega)
    have hb := bt_list (48 :: encL n) 1 (UInt8.ofNat (128 + (partsOf 4 n.toNat).length)) (by rw [e]; rfl)
    have hx : ((UInt8.ofNat (128 + (partsOf 4 n.toNat).length)).toNat : Int) = 128 + ((partsOf 4 n.toNat).length : Int) := by rw [UInt8.toNat_ofNat']; omega
    rw [hx] at hb
    rw [show ((1 : Nat) : Int) = 1 from rfl] at hb
    have hel : (encL n).length = 1 + (partsOf 4 n.toNat).length := by rw [e]; simp; omega
    rw [hb, if_neg (by omega), if_neg (by omega), hel]
    have hlf : lf ⟨(48 :: encL n).toArray⟩ 2 (partsOf 4 n.toNat).length = n := by
      rw [lf_valr, valr_parts 4 n.toNat (by omega)]
      · omega
      · intro i u hu
        have := bt_list (48 :: encL n) (2 + i) u (by
          rw [e, show 2 + i = (i + 1) + 1 by omega, List.getElem?_cons_succ, List.getElem?_cons_succ]
          exact hu)
        rw [← this]
        congr 1
    have hkk : ((128 : Int) + ((partsOf 4 n.toNat).length : Int) - 128).toNat = (partsOf 4 n.toNat).length := by omega
    rw [hkk, show (1 : Int) + 1 = 2 from rfl, hlf, if_neg (by push_cast; omega), if_neg (by omega)]
    simp only [Prod.mk.injEq, true_and, and_true]
    push_cast
    omega
theorem long_enc (n : Int) (h0 : 0 ≤ n) (h1 : n ≤ 16777215) : longOf (48 :: encL n) = if n ≤ 4000 then (1 + ((encL n).length : Int) + n, 0) else (0, 131) := by
  unfold longOf
  rw [if_neg (by simp), hdr_bt, if_neg (by decide), dec_enc n h0 h1]
  simp only [if_true]
theorem fed_enc (n : Int) (h0 : 0 ≤ n) (h1 : n ≤ 16777215) (t : ByteArray) (ht : t.data.toList = 48 :: encL n) :
    feedSt [] 0 0 t = if n = 0 then ([48 :: encL n], [], 2, 0) else if n ≤ 4000 then ([], 48 :: encL n, 0, 0) else ([], [], 0, 131) := by
  have hl := encL_len n h0 h1
  have hsz : t.size = 1 + (encL n).length := by rw [← show t.data.toList.length = t.size by rw [Array.length_toList]; rfl, ht, List.length_cons]; omega
  have hL := long_enc n h0 h1
  unfold feedSt
  rw [if_neg (by simp)]
  have hf : fed [] t = run (t.size + 1) (48 :: encL n) := by simp [fed, ht]
  rw [hf, run, hL]
  by_cases hn : n = 0
  · subst hn
    have e : encL 0 = [0] := by decide
    rw [e] at hsz ⊢
    have : t.size = 2 := by rw [hsz]; rfl
    rw [this]
    decide
  · rw [if_neg hn]
    by_cases h4 : n ≤ 4000
    · rw [if_pos h4, if_pos h4]
      rw [if_neg (by simp), if_pos (by simp only [List.length_cons]; omega)]
      simp [codeOf]
    · rw [if_neg h4, if_neg h4]
      simp [codeOf]
end Go.Proofs.YtglmnglaliljdaaDoor.Frame
