/- Plain facts: what Feed tells of bytes that are cut is what it tells of them whole. No conditions. -/
import Derived.Test.YtglmnglaliljdaaDoorFrameP
namespace Go.Proofs.YtglmnglaliljdaaDoor.Frame
open Go.RowKit Size
set_option linter.unusedVariables false
theorem bt_pre (l z : List UInt8) (i : Nat) (h : i < l.length) : bt ⟨(l ++ z).toArray⟩ (i : Int) = bt ⟨l.toArray⟩ (i : Int) := by
  have h1 : (i : Int).toNat < (⟨(l ++ z).toArray⟩ : ByteArray).size := by show i < (l ++ z).toArray.size; simp; omega
  have h2 : (i : Int).toNat < (⟨l.toArray⟩ : ByteArray).size := by show i < l.toArray.size; simpa using h
  unfold bt
  rw [dif_pos h1, dif_pos h2]
  show (((l ++ z)[i]'(by simp; omega)).toNat : Int) = ((l[i]).toNat : Int)
  rw [List.getElem_append_left h]
theorem lf_pre (l z : List UInt8) : ∀ (k a : Nat), a + k ≤ l.length → lf ⟨(l ++ z).toArray⟩ (a : Int) k = lf ⟨l.toArray⟩ (a : Int) k
  | 0, _, _ => rfl
  | k + 1, a, h => by
    have ih := lf_pre l z k a (by omega)
    have hb := bt_pre l z (a + k) (by omega)
    push_cast at hb
    show lf _ _ k * 256 + bt _ _ = lf _ _ k * 256 + bt _ _
    rw [ih, hb]
theorem size_list (l : List UInt8) : (⟨l.toArray⟩ : ByteArray).size = l.length := by show l.toArray.size = _; simp
theorem dec_pre (l z : List UInt8) (h : (dec ⟨l.toArray⟩ 1).2.2 ≠ 10) : dec ⟨(l ++ z).toArray⟩ 1 = dec ⟨l.toArray⟩ 1 := by
  have hb := fun h => bt_pre l z 1 h
  rw [show ((1 : Nat) : Int) = 1 from rfl] at hb
  unfold dec at h ⊢
  rw [size_list, List.length_append]
  rw [size_list] at h ⊢
  by_cases h1 : (l.length : Int) ≤ 1
  · rw [if_pos h1] at h; exact absurd rfl h
  · rw [if_neg h1] at h ⊢
    rw [if_neg (by push_cast; omega), hb (by omega)]
    have hr := bt_range ⟨l.toArray⟩ 1
    by_cases h2 : bt ⟨l.toArray⟩ 1 < 128
    · rw [if_pos h2, if_pos h2]
    · rw [if_neg h2] at h ⊢
      rw [if_neg h2]
      by_cases h3 : bt ⟨l.toArray⟩ 1 = 128 ∨ 132 < bt ⟨l.toArray⟩ 1
      · rw [if_pos h3, if_pos h3]
      · rw [if_neg h3] at h ⊢
        rw [if_neg h3]
        by_cases h4 : (l.length : Int) < 1 + 1 + (bt ⟨l.toArray⟩ 1 - 128)
        · rw [if_pos h4] at h; exact absurd rfl h
        · have hlf := lf_pre l z (bt ⟨l.toArray⟩ 1 - 128).toNat 2 (by omega)
          rw [if_neg h4] at h ⊢
          rw [if_neg (by push_cast; omega)]
          rw [show ((2 : Nat) : Int) = 1 + 1 from rfl] at hlf
          rw [hlf]
theorem hdr_pre (l z : List UInt8) : ∃ y, hdr (l ++ z) = ⟨(l.take 6 ++ y).toArray⟩ := by
  refine ⟨z.take (6 - l.length), ?_⟩
  unfold hdr
  rw [List.take_append]
theorem long_pre (l z : List UInt8) (h : (longOf l).2 ≠ 1) : longOf (l ++ z) = longOf l := by
  cases l with
  | nil => exact absurd rfl h
  | cons u r =>
    obtain ⟨y, hy⟩ := hdr_pre (u :: r) z
    unfold longOf at h ⊢
    rw [if_neg (show ¬ (u :: r = []) by simp)] at h ⊢
    rw [if_neg (show ¬ (u :: r ++ z = []) by simp), List.cons_append, hdr_bt, hdr_bt]
    rw [hdr_bt] at h
    by_cases h1 : (u.toNat : Int) ≠ 48
    · rw [if_pos h1, if_pos h1]
    · rw [if_neg h1] at h ⊢
      rw [if_neg h1]
      rw [List.cons_append] at hy
      have hne : (dec (hdr (u :: r)) 1).2.2 ≠ 10 := by
        intro e
        rw [e, if_neg (by decide), if_neg (by decide), if_neg (by decide)] at h
        exact absurd rfl h
      have hd : dec (hdr (u :: (r ++ z))) 1 = dec (hdr (u :: r)) 1 := by
        rw [hy]
        exact dec_pre _ _ hne
      rw [hd]
theorem run_fuel : ∀ (n m : Nat) (l : List UInt8), l.length < n → l.length < m → run n l = run m l
  | 0, _, l, h, _ => by omega
  | _ + 1, 0, l, _, h => by omega
  | n + 1, m + 1, l, h1, h2 => by
    unfold run
    by_cases h3 : (longOf l).2 ≠ 0
    · rw [if_pos h3, if_pos h3]
    · rw [if_neg h3, if_neg h3]
      by_cases h4 : l.length < (longOf l).1.toNat
      · rw [if_pos h4, if_pos h4]
      · rw [if_neg h4, if_neg h4]
        have h5 := (longOf_zero l (by omega)).1
        have e := run_fuel n m (l.drop (longOf l).1.toNat) (by rw [List.length_drop]; omega) (by rw [List.length_drop]; omega)
        rw [e]
theorem run_code : ∀ (n : Nat) (l : List UInt8), (run n l).2.2.2 ≠ 0
  | 0, l => by simp [run]
  | n + 1, l => by
    unfold run
    by_cases h3 : (longOf l).2 ≠ 0
    · rw [if_pos h3]; exact h3
    · rw [if_neg h3]
      by_cases h4 : l.length < (longOf l).1.toNat
      · rw [if_pos h4]; show (1 : Int) ≠ 0; decide
      · rw [if_neg h4]; exact run_code n _
/-- bytes that are cut: the pieces go on where the first ones end -/
theorem run_app : ∀ (n m : Nat) (l z : List UInt8), l.length < n → (l ++ z).length < m →
    ((run n l).2.2.2 ≠ 1 → (run m (l ++ z)).1 = (run n l).1 ∧ (run m (l ++ z)).2.2 = (run n l).2.2) ∧
    ((run n l).2.2.2 = 1 → (run m (l ++ z)).1 = (run n l).1 ++ (run m ((run n l).2.1 ++ z)).1 ∧ (run m (l ++ z)).2.1 = (run m ((run n l).2.1 ++ z)).2.1 ∧
      (run m (l ++ z)).2.2.1 = (run n l).2.2.1 + (run m ((run n l).2.1 ++ z)).2.2.1 ∧ (run m (l ++ z)).2.2.2 = (run m ((run n l).2.1 ++ z)).2.2.2)
  | 0, _, l, z, h, _ => by omega
  | _ + 1, 0, l, z, _, h => by omega
  | n + 1, m + 1, l, z, h1, h2 => by
    by_cases h3 : (longOf l).2 ≠ 0
    · have e : run (n + 1) l = ([], l, 0, (longOf l).2) := by rw [run, if_pos h3]
      rw [e]
      refine ⟨fun h => ?_, fun h => by simp⟩
      have hp := long_pre l z h
      have e2 : run (m + 1) (l ++ z) = ([], l ++ z, 0, (longOf l).2) := by rw [run, hp, if_pos h3]
      rw [e2]
      exact ⟨rfl, rfl⟩
    · by_cases h4 : l.length < (longOf l).1.toNat
      · have e : run (n + 1) l = ([], l, 0, 1) := by rw [run, if_neg h3, if_pos h4]
        rw [e]
        exact ⟨fun h => absurd rfl h, fun h => by simp⟩
      · have hz := longOf_zero l (by omega)
        have e : run (n + 1) l = (l.take (longOf l).1.toNat :: (run n (l.drop (longOf l).1.toNat)).1, (run n (l.drop (longOf l).1.toNat)).2.1, (longOf l).1.toNat + (run n (l.drop (longOf l).1.toNat)).2.2.1, (run n (l.drop (longOf l).1.toNat)).2.2.2) := by rw [run, if_neg h3, if_neg h4]
        have hp := long_pre l z (by omega)
        have hlen : ¬ (l ++ z).length < (longOf l).1.toNat := by rw [List.length_append]; omega
        have ht : (l ++ z).take (longOf l).1.toNat = l.take (longOf l).1.toNat := List.take_append_of_le_length (by omega)
        have hd : (l ++ z).drop (longOf l).1.toNat = l.drop (longOf l).1.toNat ++ z := List.drop_append_of_le_length (by omega)
        have e2 : run (m + 1) (l ++ z) = (l.take (longOf l).1.toNat :: (run m (l.drop (longOf l).1.toNat ++ z)).1, (run m (l.drop (longOf l).1.toNat ++ z)).2.1, (longOf l).1.toNat + (run m (l.drop (longOf l).1.toNat ++ z)).2.2.1, (run m (l.drop (longOf l).1.toNat ++ z)).2.2.2) := by
          rw [run, hp, if_neg h3, if_neg hlen, ht, hd]
        rw [List.length_append] at h2
        have hdl : (l.drop (longOf l).1.toNat).length < n := by rw [List.length_drop]; omega
        have hdz : (l.drop (longOf l).1.toNat ++ z).length < m := by rw [List.length_append, List.length_drop]; omega
        obtain ⟨i1, i2⟩ := run_app n m (l.drop (longOf l).1.toNat) z hdl hdz
        have hK := (run_parts n (l.drop (longOf l).1.toNat) hdl).1
        have hKl := congrArg List.length hK
        rw [List.length_append] at hKl
        have hf := run_fuel m (m + 1) ((run n (l.drop (longOf l).1.toNat)).2.1 ++ z) (by rw [List.length_append, List.length_drop] at *; omega) (by rw [List.length_append, List.length_drop] at *; omega)
        rw [e, e2]
        dsimp only
        refine ⟨fun h => ?_, fun h => ?_⟩
        · obtain ⟨j1, j2⟩ := i1 h
          rw [j1, j2]
          exact ⟨rfl, rfl⟩
        · obtain ⟨j1, j2, j3, j4⟩ := i2 h
          rw [← hf, j1, j2, j3, j4]
          exact ⟨rfl, rfl, by omega, rfl⟩
theorem feed_two (l : List UInt8) (a c : Int) (x y : ByteArray) : feedSt l a c (x ++ y) =
    ((feedSt l a c x).1 ++ (feedSt (feedSt l a c x).2.1 (feedSt l a c x).2.2.1 (feedSt l a c x).2.2.2 y).1,
      (feedSt (feedSt l a c x).2.1 (feedSt l a c x).2.2.1 (feedSt l a c x).2.2.2 y).2) := by
  by_cases hc : c = 0
  · subst hc
    have hx : x.data.toList.length = x.size := by rw [Array.length_toList]; rfl
    have hy : y.data.toList.length = y.size := by rw [Array.length_toList]; rfl
    have hxy : (x ++ y).data.toList = x.data.toList ++ y.data.toList := by simp
    have e1 : feedSt l a 0 x = ((fed l x).1, if codeOf (fed l x).2.2.2 ≠ 0 then [] else (fed l x).2.1, a + (fed l x).2.2.1, codeOf (fed l x).2.2.2) := by unfold feedSt; rw [if_neg (by simp)]
    have e2 : feedSt l a 0 (x ++ y) = ((fed l (x ++ y)).1, if codeOf (fed l (x ++ y)).2.2.2 ≠ 0 then [] else (fed l (x ++ y)).2.1, a + (fed l (x ++ y)).2.2.1, codeOf (fed l (x ++ y)).2.2.2) := by unfold feedSt; rw [if_neg (by simp)]
    have ef : fed l (x ++ y) = run (l.length + (x ++ y).size + 1) ((l ++ x.data.toList) ++ y.data.toList) := by unfold fed; rw [hxy, List.append_assoc]
    have hl1 : (l ++ x.data.toList).length < l.length + x.size + 1 := by rw [List.length_append, hx]; omega
    have hl2 : ((l ++ x.data.toList) ++ y.data.toList).length < l.length + (x ++ y).size + 1 := by rw [List.length_append, List.length_append, hx, hy, ByteArray.size_append]; omega
    obtain ⟨i1, i2⟩ := run_app (l.length + x.size + 1) (l.length + (x ++ y).size + 1) (l ++ x.data.toList) y.data.toList hl1 hl2
    have hrc := run_code (l.length + x.size + 1) (l ++ x.data.toList)
    have hpt := (run_parts _ _ hl1).1
    rw [ef] at e2
    rw [e2]
    by_cases hE : (run (l.length + x.size + 1) (l ++ x.data.toList)).2.2.2 = 1
    · obtain ⟨j1, j2, j3, j4⟩ := i2 hE
      have hce : codeOf (fed l x).2.2.2 = 0 := by show codeOf (run _ _).2.2.2 = 0; rw [hE]; rfl
      simp only [hce, ne_eq, not_true_eq_false, if_false] at e1
      have e3 : ∀ K A, feedSt K A 0 y = ((fed K y).1, if codeOf (fed K y).2.2.2 ≠ 0 then [] else (fed K y).2.1, A + (fed K y).2.2.1, codeOf (fed K y).2.2.2) := by intro K A; unfold feedSt; rw [if_neg (by simp)]
      rw [e1]
      dsimp only
      rw [e3]
      have hKl := congrArg List.length hpt
      rw [List.length_append, List.length_append, hx] at hKl
      have hf : fed (fed l x).2.1 y = run (l.length + (x ++ y).size + 1) ((run (l.length + x.size + 1) (l ++ x.data.toList)).2.1 ++ y.data.toList) := by
        show run _ ((run (l.length + x.size + 1) (l ++ x.data.toList)).2.1 ++ y.data.toList) = _
        exact run_fuel _ _ _ (by rw [List.length_append, hy]; exact Nat.lt_succ_self _) (by rw [List.length_append, hy, ByteArray.size_append]; omega)
      rw [hf, j1, j2, j3, j4]
      have hfx : fed l x = run (l.length + x.size + 1) (l ++ x.data.toList) := rfl
      rw [hfx]
      push_cast
      rw [Int.add_assoc]
    · obtain ⟨j1, j2⟩ := i1 hE
      have hce : codeOf (fed l x).2.2.2 ≠ 0 := by
        show codeOf (run _ _).2.2.2 ≠ 0
        unfold codeOf
        rw [if_neg hE]
        exact hrc
      rw [if_pos hce] at e1
      have e3 : ∀ K A, feedSt K A (codeOf (fed l x).2.2.2) y = ([], K, A, codeOf (fed l x).2.2.2) := by intro K A; unfold feedSt; rw [if_pos hce]
      rw [e1]
      dsimp only
      rw [e3, j1, j2]
      have hfx : fed l x = run (l.length + x.size + 1) (l ++ x.data.toList) := rfl
      rw [hfx] at hce ⊢
      rw [if_pos hce, List.append_nil]
  · have e : ∀ z, feedSt l a c z = ([], l, a, c) := by intro z; unfold feedSt; rw [if_pos hc]
    rw [e, e, e]
    rfl
end Go.Proofs.YtglmnglaliljdaaDoor.Frame
