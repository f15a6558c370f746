/- The statements FiltItems, FiltStars, FiltDigits of latinerlaw08, walked. -/
import Derived.Test.YtajpgigeploodaaGreatDoorM32
namespace Go.Proofs.YtajpgigeploodaaGreatDoor.Fi
open Go.RowKit Go.Shelf Go.Lib Fl
set_option linter.unusedVariables false
variable (p : Nat → Addr)
theorem sz_bt (l : List UInt8) : (bt' l).size = l.length := by rw [← size_bl, bl_of]
theorem cut61 (s : ByteArray) : (s.extract 0 (min s.size 61)).size ≤ 61 := by rw [ByteArray.size_extract]; omega
set_option maxHeartbeats 8000000 in
theorem items_law (name value : ByteArray) (k : Int) : Fn Tryz.prog (envX p) 6 [.v (.str name), .v (.str value), .v (.int .i64 k)] (.v (.bool true)) := by
  refine fn_prog tabOk mixed Tryz.f6 Tryz.func6 (by kernel_rfl) (by kernel_rfl) ?_
  conv => whnf
  (refine st_call (shown_fn p) ?_ rfl rfl ?_; (focus ((repeat' (first | exact trivial | exact rfl | exact Or.inl rfl | exact Or.inr ⟨rfl, rfl⟩ | refine And.intro ?_ ?_)); done)); conv => whnf)
  refine st_min 61 ?_
  conv => whnf
  refine st_cut 0 (min name.size 61) rfl rfl (by omega) (by omega) ?_
  conv => whnf
  refine st_min 61 ?_
  conv => whnf
  refine st_cut 0 (min value.size 61) rfl rfl (by omega) (by omega) ?_
  conv => whnf
  have hn := cut61 name
  have hv := cut61 value
  generalize name.extract 0 (min name.size 61) = n at *
  generalize value.extract 0 (min value.size 61) = v at *
  refine ⟨rfl, cmp_split (fun h3 => ?_) (fun h3 => ?_)⟩
  · subst h3
    conv => whnf
    have hp := print_fn p (.mk 3 n v [] (bt' []) []) ⟨by omega, by omega, Nat.zero_le _, Nat.zero_le _, Nat.zero_le _, trivial⟩ (by show 1 ≤ 500000000; decide)
    unfold prR at hp
    have hir := item_right 3 (by decide) n v
    have hnm := name_fn p n (by omega)
    by_cases hg : nameB (bl n) = true ∧ v.size ≤ 60
    · have hrt : rightF 1 (.mk 3 n v [] (bt' []) []) = true := by rw [hir, hg.1, decide_eq_true hg.2]; rfl
      rw [if_pos hrt, item_text 3 (by decide) n v] at hp
      rw [hg.1] at hnm
      have he := esc60 hg.2
      (refine st_call hp ?_ rfl rfl ?_; (focus ((repeat' (first | exact trivial | exact rfl | exact Or.inl rfl | exact Or.inr ⟨rfl, rfl⟩ | refine And.intro ?_ ?_)); done)); conv => whnf)
      refine ⟨rfl, cmp_false (fun h => h rfl) ?_⟩
      conv => whnf
      (refine st_call hnm ?_ rfl rfl ?_; (focus ((repeat' (first | exact trivial | exact rfl | exact Or.inl rfl | exact Or.inr ⟨rfl, rfl⟩ | refine And.intro ?_ ?_)); done)); conv => whnf)
      refine st_cat (by show 1 + n.size ≤ 9223372036854775807; omega) (z := bt' (40 :: bl n)) (cat_bt [40] (bl n)) ?_
      conv => whnf
      refine st_cat (by rw [sz_bt, List.length_cons, size_bl]; show _ + 1 ≤ 9223372036854775807; omega) (z := bt' (40 :: bl n ++ [61])) (cat_bt _ [61]) ?_
      conv => whnf
      (refine st_call (escFilter_fn (X := envX p) v (by omega)) ?_ rfl rfl ?_; (focus ((repeat' (first | exact trivial | exact rfl | exact Or.inl rfl | exact Or.inr ⟨rfl, rfl⟩ | refine And.intro ?_ ?_)); done)); conv => whnf)
      refine st_cat (by rw [sz_bt, sz_bt, List.length_append, List.length_cons, size_bl]; simp; omega) (z := bt' (40 :: bl n ++ [61] ++ escF (bl v))) (cat_bt _ _) ?_
      conv => whnf
      refine st_cat (by rw [sz_bt, List.length_append, List.length_append, List.length_cons, size_bl]; simp; show _ + 1 ≤ _; omega) (z := bt' (40 :: bl n ++ [61] ++ escF (bl v) ++ [41])) (cat_bt _ [41]) ?_
      conv => whnf
      refine cmp_true (by show bt' _ = bt' _; congr 1) ?_
      conv => whnf
      exact ⟨.inl rfl, rfl⟩
    · have hrt : ¬ rightF 1 (.mk 3 n v [] (bt' []) []) = true := by
        rw [hir, Bool.and_eq_true]
        exact fun h => hg ⟨h.1, of_decide_eq_true h.2⟩
      rw [if_neg hrt] at hp
      (refine st_call hp ?_ rfl rfl ?_; (focus ((repeat' (first | exact trivial | exact rfl | exact Or.inl rfl | exact Or.inr ⟨rfl, rfl⟩ | refine And.intro ?_ ?_)); done)); conv => whnf)
      refine ⟨rfl, cmp_true (by decide) ?_⟩
      conv => whnf
      cases hq : nameB (bl n)
      · rw [hq] at hnm
        (refine st_call hnm ?_ rfl rfl ?_; (focus ((repeat' (first | exact trivial | exact rfl | exact Or.inl rfl | exact Or.inr ⟨rfl, rfl⟩ | refine And.intro ?_ ?_)); done)); conv => whnf)
        exact ⟨.inl rfl, rfl⟩
      · rw [hq] at hnm
        (refine st_call hnm ?_ rfl rfl ?_; (focus ((repeat' (first | exact trivial | exact rfl | exact Or.inl rfl | exact Or.inr ⟨rfl, rfl⟩ | refine And.intro ?_ ?_)); done)); conv => whnf)
        refine ⟨rfl, cmp_true (by have : ¬ v.size ≤ 60 := fun h => hg ⟨hq, h⟩; omega) ?_⟩
        conv => whnf
        exact ⟨.inl rfl, rfl⟩
  conv => whnf
  refine ⟨rfl, cmp_split (fun h5 => ?_) (fun h5 => ?_)⟩
  · subst h5
    conv => whnf
    have hp := print_fn p (.mk 5 n v [] (bt' []) []) ⟨by omega, by omega, Nat.zero_le _, Nat.zero_le _, Nat.zero_le _, trivial⟩ (by show 1 ≤ 500000000; decide)
    unfold prR at hp
    have hir := item_right 5 (by decide) n v
    have hnm := name_fn p n (by omega)
    by_cases hg : nameB (bl n) = true ∧ v.size ≤ 60
    · have hrt : rightF 1 (.mk 5 n v [] (bt' []) []) = true := by rw [hir, hg.1, decide_eq_true hg.2]; rfl
      rw [if_pos hrt, item_text 5 (by decide) n v] at hp
      rw [hg.1] at hnm
      have he := esc60 hg.2
      (refine st_call hp ?_ rfl rfl ?_; (focus ((repeat' (first | exact trivial | exact rfl | exact Or.inl rfl | exact Or.inr ⟨rfl, rfl⟩ | refine And.intro ?_ ?_)); done)); conv => whnf)
      refine ⟨rfl, cmp_false (fun h => h rfl) ?_⟩
      conv => whnf
      (refine st_call hnm ?_ rfl rfl ?_; (focus ((repeat' (first | exact trivial | exact rfl | exact Or.inl rfl | exact Or.inr ⟨rfl, rfl⟩ | refine And.intro ?_ ?_)); done)); conv => whnf)
      refine st_cat (by show 1 + n.size ≤ 9223372036854775807; omega) (z := bt' (40 :: bl n)) (cat_bt [40] (bl n)) ?_
      conv => whnf
      refine st_cat (by rw [sz_bt, List.length_cons, size_bl]; show _ + 2 ≤ 9223372036854775807; omega) (z := bt' (40 :: bl n ++ [62, 61])) (cat_bt _ [62, 61]) ?_
      conv => whnf
      (refine st_call (escFilter_fn (X := envX p) v (by omega)) ?_ rfl rfl ?_; (focus ((repeat' (first | exact trivial | exact rfl | exact Or.inl rfl | exact Or.inr ⟨rfl, rfl⟩ | refine And.intro ?_ ?_)); done)); conv => whnf)
      refine st_cat (by rw [sz_bt, sz_bt, List.length_append, List.length_cons, size_bl]; simp; omega) (z := bt' (40 :: bl n ++ [62, 61] ++ escF (bl v))) (cat_bt _ _) ?_
      conv => whnf
      refine st_cat (by rw [sz_bt, List.length_append, List.length_append, List.length_cons, size_bl]; simp; show _ + 1 ≤ _; omega) (z := bt' (40 :: bl n ++ [62, 61] ++ escF (bl v) ++ [41])) (cat_bt _ [41]) ?_
      conv => whnf
      refine cmp_true (by show bt' _ = bt' _; congr 1) ?_
      conv => whnf
      exact ⟨.inl rfl, rfl⟩
    · have hrt : ¬ rightF 1 (.mk 5 n v [] (bt' []) []) = true := by
        rw [hir, Bool.and_eq_true]
        exact fun h => hg ⟨h.1, of_decide_eq_true h.2⟩
      rw [if_neg hrt] at hp
      (refine st_call hp ?_ rfl rfl ?_; (focus ((repeat' (first | exact trivial | exact rfl | exact Or.inl rfl | exact Or.inr ⟨rfl, rfl⟩ | refine And.intro ?_ ?_)); done)); conv => whnf)
      refine ⟨rfl, cmp_true (by decide) ?_⟩
      conv => whnf
      cases hq : nameB (bl n)
      · rw [hq] at hnm
        (refine st_call hnm ?_ rfl rfl ?_; (focus ((repeat' (first | exact trivial | exact rfl | exact Or.inl rfl | exact Or.inr ⟨rfl, rfl⟩ | refine And.intro ?_ ?_)); done)); conv => whnf)
        exact ⟨.inl rfl, rfl⟩
      · rw [hq] at hnm
        (refine st_call hnm ?_ rfl rfl ?_; (focus ((repeat' (first | exact trivial | exact rfl | exact Or.inl rfl | exact Or.inr ⟨rfl, rfl⟩ | refine And.intro ?_ ?_)); done)); conv => whnf)
        refine ⟨rfl, cmp_true (by have : ¬ v.size ≤ 60 := fun h => hg ⟨hq, h⟩; omega) ?_⟩
        conv => whnf
        exact ⟨.inl rfl, rfl⟩
  conv => whnf
  refine ⟨rfl, cmp_split (fun h6 => ?_) (fun h6 => ?_)⟩
  · subst h6
    conv => whnf
    have hp := print_fn p (.mk 6 n v [] (bt' []) []) ⟨by omega, by omega, Nat.zero_le _, Nat.zero_le _, Nat.zero_le _, trivial⟩ (by show 1 ≤ 500000000; decide)
    unfold prR at hp
    have hir := item_right 6 (by decide) n v
    have hnm := name_fn p n (by omega)
    by_cases hg : nameB (bl n) = true ∧ v.size ≤ 60
    · have hrt : rightF 1 (.mk 6 n v [] (bt' []) []) = true := by rw [hir, hg.1, decide_eq_true hg.2]; rfl
      rw [if_pos hrt, item_text 6 (by decide) n v] at hp
      rw [hg.1] at hnm
      have he := esc60 hg.2
      (refine st_call hp ?_ rfl rfl ?_; (focus ((repeat' (first | exact trivial | exact rfl | exact Or.inl rfl | exact Or.inr ⟨rfl, rfl⟩ | refine And.intro ?_ ?_)); done)); conv => whnf)
      refine ⟨rfl, cmp_false (fun h => h rfl) ?_⟩
      conv => whnf
      (refine st_call hnm ?_ rfl rfl ?_; (focus ((repeat' (first | exact trivial | exact rfl | exact Or.inl rfl | exact Or.inr ⟨rfl, rfl⟩ | refine And.intro ?_ ?_)); done)); conv => whnf)
      refine st_cat (by show 1 + n.size ≤ 9223372036854775807; omega) (z := bt' (40 :: bl n)) (cat_bt [40] (bl n)) ?_
      conv => whnf
      refine st_cat (by rw [sz_bt, List.length_cons, size_bl]; show _ + 2 ≤ 9223372036854775807; omega) (z := bt' (40 :: bl n ++ [60, 61])) (cat_bt _ [60, 61]) ?_
      conv => whnf
      (refine st_call (escFilter_fn (X := envX p) v (by omega)) ?_ rfl rfl ?_; (focus ((repeat' (first | exact trivial | exact rfl | exact Or.inl rfl | exact Or.inr ⟨rfl, rfl⟩ | refine And.intro ?_ ?_)); done)); conv => whnf)
      refine st_cat (by rw [sz_bt, sz_bt, List.length_append, List.length_cons, size_bl]; simp; omega) (z := bt' (40 :: bl n ++ [60, 61] ++ escF (bl v))) (cat_bt _ _) ?_
      conv => whnf
      refine st_cat (by rw [sz_bt, List.length_append, List.length_append, List.length_cons, size_bl]; simp; show _ + 1 ≤ _; omega) (z := bt' (40 :: bl n ++ [60, 61] ++ escF (bl v) ++ [41])) (cat_bt _ [41]) ?_
      conv => whnf
      refine cmp_true (by show bt' _ = bt' _; congr 1) ?_
      conv => whnf
      exact ⟨.inl rfl, rfl⟩
    · have hrt : ¬ rightF 1 (.mk 6 n v [] (bt' []) []) = true := by
        rw [hir, Bool.and_eq_true]
        exact fun h => hg ⟨h.1, of_decide_eq_true h.2⟩
      rw [if_neg hrt] at hp
      (refine st_call hp ?_ rfl rfl ?_; (focus ((repeat' (first | exact trivial | exact rfl | exact Or.inl rfl | exact Or.inr ⟨rfl, rfl⟩ | refine And.intro ?_ ?_)); done)); conv => whnf)
      refine ⟨rfl, cmp_true (by decide) ?_⟩
      conv => whnf
      cases hq : nameB (bl n)
      · rw [hq] at hnm
        (refine st_call hnm ?_ rfl rfl ?_; (focus ((repeat' (first | exact trivial | exact rfl | exact Or.inl rfl | exact Or.inr ⟨rfl, rfl⟩ | refine And.intro ?_ ?_)); done)); conv => whnf)
        exact ⟨.inl rfl, rfl⟩
      · rw [hq] at hnm
        (refine st_call hnm ?_ rfl rfl ?_; (focus ((repeat' (first | exact trivial | exact rfl | exact Or.inl rfl | exact Or.inr ⟨rfl, rfl⟩ | refine And.intro ?_ ?_)); done)); conv => whnf)
        refine ⟨rfl, cmp_true (by have : ¬ v.size ≤ 60 := fun h => hg ⟨hq, h⟩; omega) ?_⟩
        conv => whnf
        exact ⟨.inl rfl, rfl⟩
  conv => whnf
  refine ⟨rfl, cmp_split (fun h8 => ?_) (fun h8 => ?_)⟩
  · subst h8
    conv => whnf
    have hp := print_fn p (.mk 8 n v [] (bt' []) []) ⟨by omega, by omega, Nat.zero_le _, Nat.zero_le _, Nat.zero_le _, trivial⟩ (by show 1 ≤ 500000000; decide)
    unfold prR at hp
    have hir := item_right 8 (by decide) n v
    have hnm := name_fn p n (by omega)
    by_cases hg : nameB (bl n) = true ∧ v.size ≤ 60
    · have hrt : rightF 1 (.mk 8 n v [] (bt' []) []) = true := by rw [hir, hg.1, decide_eq_true hg.2]; rfl
      rw [if_pos hrt, item_text 8 (by decide) n v] at hp
      rw [hg.1] at hnm
      have he := esc60 hg.2
      (refine st_call hp ?_ rfl rfl ?_; (focus ((repeat' (first | exact trivial | exact rfl | exact Or.inl rfl | exact Or.inr ⟨rfl, rfl⟩ | refine And.intro ?_ ?_)); done)); conv => whnf)
      refine ⟨rfl, cmp_false (fun h => h rfl) ?_⟩
      conv => whnf
      (refine st_call hnm ?_ rfl rfl ?_; (focus ((repeat' (first | exact trivial | exact rfl | exact Or.inl rfl | exact Or.inr ⟨rfl, rfl⟩ | refine And.intro ?_ ?_)); done)); conv => whnf)
      refine st_cat (by show 1 + n.size ≤ 9223372036854775807; omega) (z := bt' (40 :: bl n)) (cat_bt [40] (bl n)) ?_
      conv => whnf
      refine st_cat (by rw [sz_bt, List.length_cons, size_bl]; show _ + 2 ≤ 9223372036854775807; omega) (z := bt' (40 :: bl n ++ [126, 61])) (cat_bt _ [126, 61]) ?_
      conv => whnf
      (refine st_call (escFilter_fn (X := envX p) v (by omega)) ?_ rfl rfl ?_; (focus ((repeat' (first | exact trivial | exact rfl | exact Or.inl rfl | exact Or.inr ⟨rfl, rfl⟩ | refine And.intro ?_ ?_)); done)); conv => whnf)
      refine st_cat (by rw [sz_bt, sz_bt, List.length_append, List.length_cons, size_bl]; simp; omega) (z := bt' (40 :: bl n ++ [126, 61] ++ escF (bl v))) (cat_bt _ _) ?_
      conv => whnf
      refine st_cat (by rw [sz_bt, List.length_append, List.length_append, List.length_cons, size_bl]; simp; show _ + 1 ≤ _; omega) (z := bt' (40 :: bl n ++ [126, 61] ++ escF (bl v) ++ [41])) (cat_bt _ [41]) ?_
      conv => whnf
      refine cmp_true (by show bt' _ = bt' _; congr 1) ?_
      conv => whnf
      exact ⟨.inl rfl, rfl⟩
    · have hrt : ¬ rightF 1 (.mk 8 n v [] (bt' []) []) = true := by
        rw [hir, Bool.and_eq_true]
        exact fun h => hg ⟨h.1, of_decide_eq_true h.2⟩
      rw [if_neg hrt] at hp
      (refine st_call hp ?_ rfl rfl ?_; (focus ((repeat' (first | exact trivial | exact rfl | exact Or.inl rfl | exact Or.inr ⟨rfl, rfl⟩ | refine And.intro ?_ ?_)); done)); conv => whnf)
      refine ⟨rfl, cmp_true (by decide) ?_⟩
      conv => whnf
      cases hq : nameB (bl n)
      · rw [hq] at hnm
        (refine st_call hnm ?_ rfl rfl ?_; (focus ((repeat' (first | exact trivial | exact rfl | exact Or.inl rfl | exact Or.inr ⟨rfl, rfl⟩ | refine And.intro ?_ ?_)); done)); conv => whnf)
        exact ⟨.inl rfl, rfl⟩
      · rw [hq] at hnm
        (refine st_call hnm ?_ rfl rfl ?_; (focus ((repeat' (first | exact trivial | exact rfl | exact Or.inl rfl | exact Or.inr ⟨rfl, rfl⟩ | refine And.intro ?_ ?_)); done)); conv => whnf)
        refine ⟨rfl, cmp_true (by have : ¬ v.size ≤ 60 := fun h => hg ⟨hq, h⟩; omega) ?_⟩
        conv => whnf
        exact ⟨.inl rfl, rfl⟩
  conv => whnf
  exact ⟨.inl rfl, rfl⟩
end Go.Proofs.YtajpgigeploodaaGreatDoor.Fi
