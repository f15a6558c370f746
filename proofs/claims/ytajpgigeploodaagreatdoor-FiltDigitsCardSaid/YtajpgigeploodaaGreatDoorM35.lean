/- The statements FiltStars, FiltDigits of latinerlaw08, walked. -/
import Derived.Test.YtajpgigeploodaaGreatDoorM33
namespace Go.Proofs.YtajpgigeploodaaGreatDoor.Fi
open Go.RowKit Go.Shelf Go.Lib Fl
set_option linter.unusedVariables false
variable (p : Nat → Addr)
theorem st_catb (a b : List UInt8) (h : a.length + b.length ≤ 1000000000) {K : ByteArray → Prop} (hK : K (bt' (a ++ b))) : (bt' a).size + (bt' b).size ≤ 9223372036854775807 ∧ ∃ z, bt' a ++ bt' b = z ∧ K z :=
  ⟨by rw [sz_bt, sz_bt]; omega, _, cat_bt a b, hK⟩
theorem size_eq {s : ByteArray} : s = { data := #[] } ↔ s.size = 0 := size0.symm
set_option maxHeartbeats 8000000 in
theorem starsL_fn (name sa sb : ByteArray) : Fn Tryz.prog (envX p) 8 [.v (.str name), .v (.str sa), .v (.str sb)] (.v (.bool true)) := by
  refine fn_prog tabOk mixed Tryz.f8 Tryz.func8 (by kernel_rfl) (by kernel_rfl) ?_
  conv => whnf
  (refine st_call (shown_fn p) ?_ rfl rfl ?_; (focus ((repeat' (first | exact trivial | exact rfl | exact Or.inl rfl | exact Or.inr ⟨rfl, rfl⟩ | refine And.intro ?_ ?_)); done)); conv => whnf)
  refine st_min 61 ?_
  conv => whnf
  refine st_cut 0 (min name.size 61) rfl rfl (by omega) (by omega) ?_
  conv => whnf
  refine st_min 61 ?_
  conv => whnf
  refine st_cut 0 (min sa.size 61) rfl rfl (by omega) (by omega) ?_
  conv => whnf
  refine st_min 61 ?_
  conv => whnf
  refine st_cut 0 (min sb.size 61) rfl rfl (by omega) (by omega) ?_
  conv => whnf
  have hn := cut61 name
  have ha := cut61 sa
  have hb := cut61 sb
  generalize name.extract 0 (min name.size 61) = n at *
  generalize sa.extract 0 (min sa.size 61) = a at *
  generalize sb.extract 0 (min sb.size 61) = b at *
  have hea := esc_len (bl a)
  have heb := esc_len (bl b)
  rw [size_bl] at hea heb
  have hnm := name_fn p n (by omega)
  have hnl : (bl n).length ≤ 61 := by rw [size_bl]; exact hn
  refine st_catb [40] (bl n) (by simp only [List.length_cons, List.length_nil]; omega) ?_
  conv => whnf
  refine st_catb (40 :: bl n) [61] (by simp only [List.length_cons, List.length_nil]; omega) ?_
  conv => whnf
  (refine st_call (escFilter_fn (X := envX p) a (by omega)) ?_ rfl rfl ?_; (focus ((repeat' (first | exact trivial | exact rfl | exact Or.inl rfl | exact Or.inr ⟨rfl, rfl⟩ | refine And.intro ?_ ?_)); done)); conv => whnf)
  refine st_catb (40 :: bl n ++ [61]) (escF (bl a)) (by simp only [List.length_cons, List.length_append, List.length_nil]; omega) ?_
  conv => whnf
  refine st_catb (40 :: bl n ++ [61] ++ escF (bl a)) [42] (by simp only [List.length_cons, List.length_append, List.length_nil]; omega) ?_
  conv => whnf
  (refine st_call (escFilter_fn (X := envX p) b (by omega)) ?_ rfl rfl ?_; (focus ((repeat' (first | exact trivial | exact rfl | exact Or.inl rfl | exact Or.inr ⟨rfl, rfl⟩ | refine And.intro ?_ ?_)); done)); conv => whnf)
  refine st_catb (40 :: bl n ++ [61] ++ escF (bl a) ++ [42]) (escF (bl b)) (by simp only [List.length_cons, List.length_append, List.length_nil]; omega) ?_
  conv => whnf
  refine st_catb (40 :: bl n ++ [61] ++ escF (bl a) ++ [42] ++ escF (bl b)) [41] (by simp only [List.length_cons, List.length_append, List.length_nil]; omega) ?_
  conv => whnf
  have hp := parse_fn p (bt' (40 :: bl n ++ [61] ++ escF (bl a) ++ [42] ++ escF (bl b) ++ [41])) (by rw [sz_bt]; simp only [List.length_cons, List.length_append, List.length_nil]; omega)
  rw [bl_of] at hp
  by_cases hg : nameB (bl n) = true ∧ a.size ≤ 60 ∧ b.size ≤ 60
  rotate_left
  · unfold paR at hp
    cases hpr : parsedF (40 :: bl n ++ [61] ++ escF (bl a) ++ [42] ++ escF (bl b) ++ [41]) with
    | none =>
      rw [hpr] at hp
      dsimp only at hp
      (refine st_call hp ?_ rfl rfl ?_; (focus ((repeat' (first | exact trivial | exact rfl | exact Or.inl rfl | exact Or.inr ⟨rfl, rfl⟩ | refine And.intro ?_ ?_)); done)); conv => whnf)
      cases hq : nameB (bl n)
      · rw [hq] at hnm
        (refine st_call hnm ?_ rfl rfl ?_; (focus ((repeat' (first | exact trivial | exact rfl | exact Or.inl rfl | exact Or.inr ⟨rfl, rfl⟩ | refine And.intro ?_ ?_)); done)); conv => whnf)
        refine ⟨rfl, cmp_false (by decide) ?_⟩
        conv => whnf
        refine cmp_true rfl ?_
        conv => whnf
        exact ⟨.inl rfl, rfl⟩
      · rw [hq] at hnm
        (refine st_call hnm ?_ rfl rfl ?_; (focus ((repeat' (first | exact trivial | exact rfl | exact Or.inl rfl | exact Or.inr ⟨rfl, rfl⟩ | refine And.intro ?_ ?_)); done)); conv => whnf)
        refine ⟨rfl, cmp_split (fun ha => ?_) (fun ha => ?_)⟩
        · conv => whnf
          refine ⟨rfl, cmp_false (by decide) ?_⟩
          conv => whnf
          refine cmp_true rfl ?_
          conv => whnf
          exact ⟨.inl rfl, rfl⟩
        · conv => whnf
          refine ⟨rfl, cmp_split (fun hb => ?_) (fun hb => ?_)⟩
          · conv => whnf
            refine ⟨rfl, cmp_false (by decide) ?_⟩
            conv => whnf
            refine cmp_true rfl ?_
            conv => whnf
            exact ⟨.inl rfl, rfl⟩
          · exact absurd ⟨hq, (by omega : a.size ≤ 60), (by omega : b.size ≤ 60)⟩ hg
    | some f =>
      rw [hpr] at hp
      dsimp only at hp
      (refine st_call hp ?_ rfl rfl ?_; (focus ((repeat' (first | exact trivial | exact rfl | exact Or.inl rfl | exact Or.inr ⟨rfl, rfl⟩ | refine And.intro ?_ ?_)); done)); conv => whnf)
      cases hq : nameB (bl n)
      · rw [hq] at hnm
        (refine st_call hnm ?_ rfl rfl ?_; (focus ((repeat' (first | exact trivial | exact rfl | exact Or.inl rfl | exact Or.inr ⟨rfl, rfl⟩ | refine And.intro ?_ ?_)); done)); conv => whnf)
        refine ⟨rfl, cmp_true rfl ?_⟩
        conv => whnf
        exact ⟨.inl rfl, rfl⟩
      · rw [hq] at hnm
        (refine st_call hnm ?_ rfl rfl ?_; (focus ((repeat' (first | exact trivial | exact rfl | exact Or.inl rfl | exact Or.inr ⟨rfl, rfl⟩ | refine And.intro ?_ ?_)); done)); conv => whnf)
        refine ⟨rfl, cmp_split (fun ha => ?_) (fun ha => ?_)⟩
        · conv => whnf
          refine ⟨rfl, cmp_true rfl ?_⟩
          conv => whnf
          exact ⟨.inl rfl, rfl⟩
        · conv => whnf
          refine ⟨rfl, cmp_split (fun hb => ?_) (fun hb => ?_)⟩
          · conv => whnf
            refine ⟨rfl, cmp_true rfl ?_⟩
            conv => whnf
            exact ⟨.inl rfl, rfl⟩
          · exact absurd ⟨hq, (by omega : a.size ≤ 60), (by omega : b.size ≤ 60)⟩ hg
  obtain ⟨g1, g2, g3⟩ := hg
  have hlaw := stars_law n a b g1 g2 g3
  rw [show 40 :: (bl n ++ 61 :: (escF (bl a) ++ 42 :: escF (bl b)) ++ [41]) = (40 :: bl n ++ [61] ++ escF (bl a) ++ [42] ++ escF (bl b) ++ [41]) by simp] at hlaw
  unfold paR at hp
  rw [hlaw] at hp
  rw [g1] at hnm
  by_cases h0 : a.size = 0 ∧ b.size = 0
  · rw [if_pos h0] at hp
    dsimp only at hp
    (refine st_call hp ?_ rfl rfl ?_; (focus ((repeat' (first | exact trivial | exact rfl | exact Or.inl rfl | exact Or.inr ⟨rfl, rfl⟩ | refine And.intro ?_ ?_)); done)); conv => whnf)
    (refine st_call hnm ?_ rfl rfl ?_; (focus ((repeat' (first | exact trivial | exact rfl | exact Or.inl rfl | exact Or.inr ⟨rfl, rfl⟩ | refine And.intro ?_ ?_)); done)); conv => whnf)
    refine ⟨rfl, cmp_false (by omega) ?_⟩
    conv => whnf
    refine ⟨rfl, cmp_false (by omega) ?_⟩
    conv => whnf
    refine cmp_true (size_eq.2 h0.1) ?_
    conv => whnf
    refine cmp_true (size_eq.2 h0.2) ?_
    conv => whnf
    refine ⟨rfl, cmp_true rfl ?_⟩
    conv => whnf
    refine ⟨rfl, cmp_true rfl ?_⟩
    conv => whnf
    exact ⟨.inl rfl, rfl⟩
  rw [if_neg h0] at hp
  dsimp only at hp
  (refine st_call hp ?_ rfl rfl ?_; (focus ((repeat' (first | exact trivial | exact rfl | exact Or.inl rfl | exact Or.inr ⟨rfl, rfl⟩ | refine And.intro ?_ ?_)); done)); conv => whnf)
  (refine st_call hnm ?_ rfl rfl ?_; (focus ((repeat' (first | exact trivial | exact rfl | exact Or.inl rfl | exact Or.inr ⟨rfl, rfl⟩ | refine And.intro ?_ ?_)); done)); conv => whnf)
  refine ⟨rfl, cmp_false (by omega) ?_⟩
  conv => whnf
  refine ⟨rfl, cmp_false (by omega) ?_⟩
  conv => whnf
  refine cmp_split (fun e1 => ?_) (fun e1 => ?_)
  · conv => whnf
    refine cmp_false (fun e2 => h0 ⟨size_eq.1 e1, size_eq.1 e2⟩) ?_
    conv => whnf
    refine ⟨rfl, cmp_true rfl ?_⟩
    conv => whnf
    refine ⟨rfl, cmp_true rfl ?_⟩
    conv => whnf
    refine cmp_true rfl ?_
    conv => whnf
    refine cmp_true rfl ?_
    conv => whnf
    refine cmp_true rfl ?_
    conv => whnf
    refine ⟨rfl, cmp_true rfl ?_⟩
    conv => whnf
    exact ⟨.inl rfl, rfl⟩
  · conv => whnf
    refine ⟨rfl, cmp_true rfl ?_⟩
    conv => whnf
    refine ⟨rfl, cmp_true rfl ?_⟩
    conv => whnf
    refine cmp_true rfl ?_
    conv => whnf
    refine cmp_true rfl ?_
    conv => whnf
    refine cmp_true rfl ?_
    conv => whnf
    refine ⟨rfl, cmp_true rfl ?_⟩
    conv => whnf
    exact ⟨.inl rfl, rfl⟩
set_option maxHeartbeats 8000000 in
theorem digitsL_fn (name value : ByteArray) : Fn Tryz.prog (envX p) 10 [.v (.str name), .v (.str value)] (.v (.bool true)) := by
  refine fn_prog tabOk mixed Tryz.f10 Tryz.func10 (by kernel_rfl) (by kernel_rfl) ?_
  conv => whnf
  (refine st_call (shown_fn p) ?_ rfl rfl ?_; (focus ((repeat' (first | exact trivial | exact rfl | exact Or.inl rfl | exact Or.inr ⟨rfl, rfl⟩ | refine And.intro ?_ ?_)); done)); conv => whnf)
  refine st_min 61 ?_
  conv => whnf
  refine st_cut 0 (min name.size 61) rfl rfl (by omega) (by omega) ?_
  conv => whnf
  refine st_min 61 ?_
  conv => whnf
  refine st_cut 0 (min value.size 61) rfl rfl (by omega) (by omega) ?_
  conv => whnf
  have hn := cut61 name
  have hv := cut61 value
  generalize name.extract 0 (min name.size 61) = n at *
  generalize value.extract 0 (min value.size 61) = v at *
  have hnm := name_fn p n (by omega)
  have hnl : (bl n).length ≤ 61 := by rw [size_bl]; exact hn
  have hvl : (bl v).length ≤ 61 := by rw [size_bl]; exact hv
  refine st_catb [40] (bl n) (by simp only [List.length_cons, List.length_nil]; omega) ?_
  conv => whnf
  refine st_catb (40 :: bl n) [61] (by simp only [List.length_cons, List.length_nil]; omega) ?_
  conv => whnf
  refine ⟨Nat, fun i => ⟨75, [(0, .v (.str n)), (1, .v (.str v)), (5, .v (.bool true)), (6, .v (.str (bt' (40 :: bl n ++ [61] ++ ((bl v).take i).flatMap fun b => 92 :: Code.hexB b)))), (7, .v (.int .i64 (i : Nat)))], [], []⟩, fun i => i ≤ v.size, fun i => v.size - i, ⟨0, [], Nat.zero_le _, ?_⟩, fun i hi => ?_⟩
  · dsimp only
    rw [show (40 :: bl n ++ [61] ++ ((bl v).take 0).flatMap fun b => 92 :: Code.hexB b) = 40 :: bl n ++ [61] by simp]
    (focus ((repeat' (first | exact trivial | exact rfl | exact Or.inl rfl | exact Or.inr ⟨rfl, rfl⟩ | refine And.intro ?_ ?_)); done))
  have hfl := hex_len ((bl v).take i)
  rw [List.length_take] at hfl
  conv => whnf
  refine ⟨rfl, cmp_split (fun h => ?_) (fun h => ?_)⟩
  · have hil : i < v.size := by omega
    have hib : i < (bl v).length := by rw [size_bl]; exact hil
    conv => whnf
    refine st_catb (40 :: bl n ++ [61] ++ ((bl v).take i).flatMap fun b => 92 :: Code.hexB b) [92] (by simp only [List.length_cons, List.length_append, List.length_nil] at *; omega) ?_
    conv => whnf
    refine ⟨rfl, st_succ (by omega) ?_⟩
    conv => whnf
    refine st_cut i (i + 1) rfl rfl (by omega) (by omega) ?_
    conv => whnf
    have hone : bl (v.extract i (i + 1)) = [(bl v)[i]] := by
      show (v.extract i (i + 1)).data.toList = _
      rw [Lib.extract_data, show i + 1 - i = 1 by omega]
      show ((bl v).drop i).take 1 = _
      rw [List.drop_eq_getElem_cons hib]
      rfl
    have hh := hex_fn (X := envX p) (v.extract i (i + 1)) (by rw [ByteArray.size_extract]; omega)
    rw [hone] at hh
    (refine st_call hh ?_ rfl rfl ?_; (focus ((repeat' (first | exact trivial | exact rfl | exact Or.inl rfl | exact Or.inr ⟨rfl, rfl⟩ | refine And.intro ?_ ?_)); done)); conv => whnf)
    refine st_catb (40 :: bl n ++ [61] ++ (((bl v).take i).flatMap fun b => 92 :: Code.hexB b) ++ [92]) (Code.hexL [(bl v)[i]]) (by simp only [List.length_cons, List.length_append, List.length_nil, Code.hexL, Code.hexB, List.flatMap_cons, List.flatMap_nil] at *; omega) ?_
    conv => whnf
    refine ⟨rfl, st_succ (by omega) ?_⟩
    conv => whnf
    refine ⟨i + 1, [], by dsimp only; omega, by dsimp only; omega, ?_⟩
    have hts : (40 :: bl n ++ [61] ++ ((bl v).take (i + 1)).flatMap fun b => 92 :: Code.hexB b) = 40 :: bl n ++ [61] ++ (((bl v).take i).flatMap fun b => 92 :: Code.hexB b) ++ [92] ++ Code.hexL [(bl v)[i]] := by
      rw [List.take_succ_eq_append_getElem hib, List.flatMap_append]
      simp [Code.hexL]
    dsimp only
    rw [hts]
    (focus ((repeat' (first | exact trivial | exact rfl | exact Or.inl rfl | exact Or.inr ⟨rfl, rfl⟩ | refine And.intro ?_ ?_)); done))
  have hie : i = v.size := by omega
  subst hie
  rw [List.take_of_length_le (by rw [size_bl]; exact Nat.le_refl _)] at hfl
  rw [size_bl] at hfl
  conv => whnf
  rw [List.take_of_length_le (by rw [size_bl]; exact Nat.le_refl _)]
  refine st_catb (40 :: bl n ++ [61] ++ (bl v).flatMap fun b => 92 :: Code.hexB b) [41] (by simp only [List.length_cons, List.length_append, List.length_nil] at *; omega) ?_
  conv => whnf
  have hp := parse_fn p (bt' (40 :: bl n ++ [61] ++ ((bl v).flatMap fun b => 92 :: Code.hexB b) ++ [41])) (by rw [sz_bt]; simp only [List.length_cons, List.length_append, List.length_nil] at *; omega)
  rw [bl_of] at hp
  by_cases hg : nameB (bl n) = true ∧ v.size ≤ 60
  rotate_left
  · unfold paR at hp
    cases hpr : parsedF (40 :: bl n ++ [61] ++ ((bl v).flatMap fun b => 92 :: Code.hexB b) ++ [41]) with
    | none =>
      rw [hpr] at hp
      dsimp only at hp
      (refine st_call hp ?_ rfl rfl ?_; (focus ((repeat' (first | exact trivial | exact rfl | exact Or.inl rfl | exact Or.inr ⟨rfl, rfl⟩ | refine And.intro ?_ ?_)); done)); conv => whnf)
      cases hq : nameB (bl n)
      · rw [hq] at hnm
        (refine st_call hnm ?_ rfl rfl ?_; (focus ((repeat' (first | exact trivial | exact rfl | exact Or.inl rfl | exact Or.inr ⟨rfl, rfl⟩ | refine And.intro ?_ ?_)); done)); conv => whnf)
        refine ⟨rfl, cmp_false (by decide) ?_⟩
        conv => whnf
        refine cmp_true rfl ?_
        conv => whnf
        exact ⟨.inl rfl, rfl⟩
      · rw [hq] at hnm
        (refine st_call hnm ?_ rfl rfl ?_; (focus ((repeat' (first | exact trivial | exact rfl | exact Or.inl rfl | exact Or.inr ⟨rfl, rfl⟩ | refine And.intro ?_ ?_)); done)); conv => whnf)
        refine ⟨rfl, cmp_split (fun hv => ?_) (fun hv => ?_)⟩
        · conv => whnf
          refine ⟨rfl, cmp_false (by decide) ?_⟩
          conv => whnf
          refine cmp_true rfl ?_
          conv => whnf
          exact ⟨.inl rfl, rfl⟩
        · exact absurd ⟨hq, (by omega : v.size ≤ 60)⟩ hg
    | some f =>
      rw [hpr] at hp
      dsimp only at hp
      (refine st_call hp ?_ rfl rfl ?_; (focus ((repeat' (first | exact trivial | exact rfl | exact Or.inl rfl | exact Or.inr ⟨rfl, rfl⟩ | refine And.intro ?_ ?_)); done)); conv => whnf)
      cases hq : nameB (bl n)
      · rw [hq] at hnm
        (refine st_call hnm ?_ rfl rfl ?_; (focus ((repeat' (first | exact trivial | exact rfl | exact Or.inl rfl | exact Or.inr ⟨rfl, rfl⟩ | refine And.intro ?_ ?_)); done)); conv => whnf)
        refine ⟨rfl, cmp_true rfl ?_⟩
        conv => whnf
        exact ⟨.inl rfl, rfl⟩
      · rw [hq] at hnm
        (refine st_call hnm ?_ rfl rfl ?_; (focus ((repeat' (first | exact trivial | exact rfl | exact Or.inl rfl | exact Or.inr ⟨rfl, rfl⟩ | refine And.intro ?_ ?_)); done)); conv => whnf)
        refine ⟨rfl, cmp_split (fun hv => ?_) (fun hv => ?_)⟩
        · conv => whnf
          refine ⟨rfl, cmp_true rfl ?_⟩
          conv => whnf
          exact ⟨.inl rfl, rfl⟩
        · exact absurd ⟨hq, (by omega : v.size ≤ 60)⟩ hg
  obtain ⟨g1, g2⟩ := hg
  have hlaw := digits_law n v g1 g2
  rw [show 40 :: (bl n ++ 61 :: ((bl v).flatMap fun b => 92 :: Code.hexB b) ++ [41]) = (40 :: bl n ++ [61] ++ ((bl v).flatMap fun b => 92 :: Code.hexB b) ++ [41]) by simp] at hlaw
  unfold paR at hp
  rw [hlaw] at hp
  dsimp only at hp
  rw [g1] at hnm
  (refine st_call hp ?_ rfl rfl ?_; (focus ((repeat' (first | exact trivial | exact rfl | exact Or.inl rfl | exact Or.inr ⟨rfl, rfl⟩ | refine And.intro ?_ ?_)); done)); conv => whnf)
  (refine st_call hnm ?_ rfl rfl ?_; (focus ((repeat' (first | exact trivial | exact rfl | exact Or.inl rfl | exact Or.inr ⟨rfl, rfl⟩ | refine And.intro ?_ ?_)); done)); conv => whnf)
  refine ⟨rfl, cmp_false (by omega) ?_⟩
  conv => whnf
  refine ⟨rfl, cmp_true rfl ?_⟩
  conv => whnf
  have hm : midF (.mk 3 n v [] (bt' []) []) := ⟨by omega, by omega, Nat.zero_le _, Nat.zero_le _, Nat.zero_le _, trivial⟩
  have hsm := same_fn (X := envX p) _ _ hm hm
  rw [sameF_refl] at hsm
  (refine st_call hsm ?_ rfl rfl ?_; (focus ((repeat' (first | exact trivial | exact rfl | exact Or.inl rfl | exact Or.inr ⟨rfl, rfl⟩ | refine And.intro ?_ ?_)); done)); conv => whnf)
  exact ⟨.inl rfl, rfl⟩
end Go.Proofs.YtajpgigeploodaaGreatDoor.Fi
