/- Several texts, one behind the other. The statements FiltStars, FiltDigits of latinerlaw08, walked. filt's laws: a filter cut to eight deep, of each one's lists the first ten, texts at sixty-one bytes; a text cut at five hundred. No conditions. The statements FiltBack, FiltWraps, FiltSets, FiltNames of latinerlaw08, walked. -/
import Derived.Test.YtiafggoaedifdaaGreatDoorM33
import Derived.Test.YtiafggoaedifdaaGreatDoorM24
/- The statements FiltStars, FiltDigits of latinerlaw08, walked. -/
namespace Go.Proofs.YtiafggoaedifdaaGreatDoor.Fi
open Go.RowKit Go.Shelf Go.Lib Fl
set_option linter.unusedVariables false
variable (p : Nat → Addr)
theorem st_catb (a b : List UInt8) (h : a.length + b.length ≤ 1000000000) {K : ByteArray → Prop} (hK : K (bt' (a ++ b))) : (bt' a).size + (bt' b).size ≤ 9223372036854775807 ∧ ∃ z, bt' a ++ bt' b = z ∧ K z :=
  ⟨by rw [sz_bt, sz_bt]; omega, _, cat_bt a b, hK⟩
theorem size_eq {s : ByteArray} : s = { data := #[] } ↔ s.size = 0 := size0.symm
set_option maxHeartbeats 8000000 in
theorem starsL_fn (name sa sb : ByteArray) : Fn Tryz.prog (envX p) 7 [.v (.str name), .v (.str sa), .v (.str sb)] (.v (.bool true)) := by
  refine fn_prog tabOk mixed Tryz.f7 Tryz.func7 (by kernel_rfl) (by kernel_rfl) ?_
  conv => whnf
  (refine st_call (shown_fn p) ?_ rfl rfl ?_; (focus ((repeat' (first | exact trivial | exact rfl | exact Or.inl rfl | exact Or.inr ⟨rfl, rfl⟩ | refine And.intro ?_ ?_)); done)); conv => whnf)
  refine st_min 61 ?_
  conv => whnf
  refine st_cut 0 (min name.size 61) rfl rfl (by omega) (by omega) ?_
  conv => whnf
  refine st_min 61 ?_
  conv => whnf
  refine st_cut 0 (min sa.size 61) rfl rfl (by omega) (by omega) ?_
  conv => whnf
  refine st_min 61 ?_
  conv => whnf
  refine st_cut 0 (min sb.size 61) rfl rfl (by omega) (by omega) ?_
  conv => whnf
  have hn := cut61 name
  have ha := cut61 sa
  have hb := cut61 sb
  generalize name.extract 0 (min name.size 61) = n at *
  generalize sa.extract 0 (min sa.size 61) = a at *
  generalize sb.extract 0 (min sb.size 61) = b at *
  have hea := esc_len (bl a)
  have heb := esc_len (bl b)
  rw [size_bl] at hea heb
  have hnm := name_fn p n (by omega)
  have hnl : (bl n).length ≤ 61 := by rw [size_bl]; exact hn
  refine st_catb [40] (bl n) (by simp only [List.length_cons, List.length_nil]; omega) ?_
  conv => whnf
  refine st_catb (40 :: bl n) [61] (by simp only [List.length_cons, List.length_nil]; omega) ?_
  conv => whnf
  (refine st_call (escFilter_fn (X := envX p) a (by omega)) ?_ rfl rfl ?_; (focus ((repeat' (first | exact trivial | exact rfl | exact Or.inl rfl | exact Or.inr ⟨rfl, rfl⟩ | refine And.intro ?_ ?_)); done)); conv => whnf)
  refine st_catb (40 :: bl n ++ [61]) (escF (bl a)) (by simp only [List.length_cons, List.length_append, List.length_nil]; omega) ?_
  conv => whnf
  refine st_catb (40 :: bl n ++ [61] ++ escF (bl a)) [42] (by simp only [List.length_cons, List.length_append, List.length_nil]; omega) ?_
  conv => whnf
  (refine st_call (escFilter_fn (X := envX p) b (by omega)) ?_ rfl rfl ?_; (focus ((repeat' (first | exact trivial | exact rfl | exact Or.inl rfl | exact Or.inr ⟨rfl, rfl⟩ | refine And.intro ?_ ?_)); done)); conv => whnf)
  refine st_catb (40 :: bl n ++ [61] ++ escF (bl a) ++ [42]) (escF (bl b)) (by simp only [List.length_cons, List.length_append, List.length_nil]; omega) ?_
  conv => whnf
  refine st_catb (40 :: bl n ++ [61] ++ escF (bl a) ++ [42] ++ escF (bl b)) [41] (by simp only [List.length_cons, List.length_append, List.length_nil]; omega) ?_
  conv => whnf
  have hp := parse_fn p (bt' (40 :: bl n ++ [61] ++ escF (bl a) ++ [42] ++ escF (bl b) ++ [41])) (by rw [sz_bt]; simp only [List.length_cons, List.length_append, List.length_nil]; omega)
  rw [bl_of] at hp
  by_cases hg : nameB (bl n) = true ∧ a.size ≤ 60 ∧ b.size ≤ 60
  rotate_left
  · unfold paR at hp
    cases hpr : parsedF (40 :: bl n ++ [61] ++ escF (bl a) ++ [42] ++ escF (bl b) ++ [41]) with
    | none =>
      rw [hpr] at hp
      dsimp only at hp
      (refine st_call hp ?_ rfl rfl ?_; (focus ((repeat' (first | exact trivial | exact rfl | exact Or.inl rfl | exact Or.inr ⟨rfl, rfl⟩ | refine And.intro ?_ ?_)); done)); conv => whnf)
      cases hq : nameB (bl n)
      · rw [hq] at hnm
        (refine st_call hnm ?_ rfl rfl ?_; (focus ((repeat' (first | exact trivial | exact rfl | exact Or.inl rfl | exact Or.inr ⟨rfl, rfl⟩ | refine And.intro ?_ ?_)); done)); conv => whnf)
        refine ⟨rfl, cmp_false (by decide) ?_⟩
        conv => whnf
        refine cmp_true rfl ?_
        conv => whnf
        exact ⟨.inl rfl, rfl⟩
      · rw [hq] at hnm
        (refine st_call hnm ?_ rfl rfl ?_; (focus ((repeat' (first | exact trivial | exact rfl | exact Or.inl rfl | exact Or.inr ⟨rfl, rfl⟩ | refine And.intro ?_ ?_)); done)); conv => whnf)
        refine ⟨rfl, cmp_split (fun ha => ?_) (fun ha => ?_)⟩
        · conv => whnf
          refine ⟨rfl, cmp_false (by decide) ?_⟩
          conv => whnf
          refine cmp_true rfl ?_
          conv => whnf
          exact ⟨.inl rfl, rfl⟩
        · conv => whnf
          refine ⟨rfl, cmp_split (fun hb => ?_) (fun hb => ?_)⟩
          · conv => whnf
            refine ⟨rfl, cmp_false (by decide) ?_⟩
            conv => whnf
            refine cmp_true rfl ?_
            conv => whnf
            exact ⟨.inl rfl, rfl⟩
          · exact absurd ⟨hq, (by omega : a.size ≤ 60), (by omega : b.size ≤ 60)⟩ hg
    | some f =>
      rw [hpr] at hp
      dsimp only at hp
      (refine st_call hp ?_ rfl rfl ?_; (focus ((repeat' (first | exact trivial | exact rfl | exact Or.inl rfl | exact Or.inr ⟨rfl, rfl⟩ | refine And.intro ?_ ?_)); done)); conv => whnf)
      cases hq : nameB (bl n)
      · rw [hq] at hnm
        (refine st_call hnm ?_ rfl rfl ?_; (focus ((repeat' (first | exact trivial | exact rfl | exact Or.inl rfl | exact Or.inr ⟨rfl, rfl⟩ | refine And.intro ?_ ?_)); done)); conv => whnf)
        refine ⟨rfl, cmp_true rfl ?_⟩
        conv => whnf
        exact ⟨.inl rfl, rfl⟩
      · rw [hq] at hnm
        (refine st_call hnm ?_ rfl rfl ?_; (focus ((repeat' (first | exact trivial | exact rfl | exact Or.inl rfl | exact Or.inr ⟨rfl, rfl⟩ | refine And.intro ?_ ?_)); done)); conv => whnf)
        refine ⟨rfl, cmp_split (fun ha => ?_) (fun ha => ?_)⟩
        · conv => whnf
          refine ⟨rfl, cmp_true rfl ?_⟩
          conv => whnf
          exact ⟨.inl rfl, rfl⟩
        · conv => whnf
          refine ⟨rfl, cmp_split (fun hb => ?_) (fun hb => ?_)⟩
          · conv => whnf
            refine ⟨rfl, cmp_true rfl ?_⟩
            conv => whnf
            exact ⟨.inl rfl, rfl⟩
          · exact absurd ⟨hq, (by omega : a.size ≤ 60), (by omega : b.size ≤ 60)⟩ hg
  obtain ⟨g1, g2, g3⟩ := hg
  have hlaw := stars_law n a b g1 g2 g3
  rw [show 40 :: (bl n ++ 61 :: (escF (bl a) ++ 42 :: escF (bl b)) ++ [41]) = (40 :: bl n ++ [61] ++ escF (bl a) ++ [42] ++ escF (bl b) ++ [41]) by simp] at hlaw
  unfold paR at hp
  rw [hlaw] at hp
  rw [g1] at hnm
  by_cases h0 : a.size = 0 ∧ b.size = 0
  · rw [if_pos h0] at hp
    dsimp only at hp
    (refine st_call hp ?_ rfl rfl ?_; (focus ((repeat' (first | exact trivial | exact rfl | exact Or.inl rfl | exact Or.inr ⟨rfl, rfl⟩ | refine And.intro ?_ ?_)); done)); conv => whnf)
    (refine st_call hnm ?_ rfl rfl ?_; (focus ((repeat' (first | exact trivial | exact rfl | exact Or.inl rfl | exact Or.inr ⟨rfl, rfl⟩ | refine And.intro ?_ ?_)); done)); conv => whnf)
    refine ⟨rfl, cmp_false (by omega) ?_⟩
    conv => whnf
    refine ⟨rfl, cmp_false (by omega) ?_⟩
    conv => whnf
    refine cmp_true (size_eq.2 h0.1) ?_
    conv => whnf
    refine cmp_true (size_eq.2 h0.2) ?_
    conv => whnf
    refine ⟨rfl, cmp_true rfl ?_⟩
    conv => whnf
    refine ⟨rfl, cmp_true rfl ?_⟩
    conv => whnf
    exact ⟨.inl rfl, rfl⟩
  rw [if_neg h0] at hp
  dsimp only at hp
  (refine st_call hp ?_ rfl rfl ?_; (focus ((repeat' (first | exact trivial | exact rfl | exact Or.inl rfl | exact Or.inr ⟨rfl, rfl⟩ | refine And.intro ?_ ?_)); done)); conv => whnf)
  (refine st_call hnm ?_ rfl rfl ?_; (focus ((repeat' (first | exact trivial | exact rfl | exact Or.inl rfl | exact Or.inr ⟨rfl, rfl⟩ | refine And.intro ?_ ?_)); done)); conv => whnf)
  refine ⟨rfl, cmp_false (by omega) ?_⟩
  conv => whnf
  refine ⟨rfl, cmp_false (by omega) ?_⟩
  conv => whnf
  refine cmp_split (fun e1 => ?_) (fun e1 => ?_)
  · conv => whnf
    refine cmp_false (fun e2 => h0 ⟨size_eq.1 e1, size_eq.1 e2⟩) ?_
    conv => whnf
    refine ⟨rfl, cmp_true rfl ?_⟩
    conv => whnf
    refine ⟨rfl, cmp_true rfl ?_⟩
    conv => whnf
    refine cmp_true rfl ?_
    conv => whnf
    refine cmp_true rfl ?_
    conv => whnf
    refine cmp_true rfl ?_
    conv => whnf
    refine ⟨rfl, cmp_true rfl ?_⟩
    conv => whnf
    exact ⟨.inl rfl, rfl⟩
  · conv => whnf
    refine ⟨rfl, cmp_true rfl ?_⟩
    conv => whnf
    refine ⟨rfl, cmp_true rfl ?_⟩
    conv => whnf
    refine cmp_true rfl ?_
    conv => whnf
    refine cmp_true rfl ?_
    conv => whnf
    refine cmp_true rfl ?_
    conv => whnf
    refine ⟨rfl, cmp_true rfl ?_⟩
    conv => whnf
    exact ⟨.inl rfl, rfl⟩
set_option maxHeartbeats 8000000 in
theorem digitsL_fn (name value : ByteArray) : Fn Tryz.prog (envX p) 9 [.v (.str name), .v (.str value)] (.v (.bool true)) := by
  refine fn_prog tabOk mixed Tryz.f9 Tryz.func9 (by kernel_rfl) (by kernel_rfl) ?_
  conv => whnf
  (refine st_call (shown_fn p) ?_ rfl rfl ?_; (focus ((repeat' (first | exact trivial | exact rfl | exact Or.inl rfl | exact Or.inr ⟨rfl, rfl⟩ | refine And.intro ?_ ?_)); done)); conv => whnf)
  refine st_min 61 ?_
  conv => whnf
  refine st_cut 0 (min name.size 61) rfl rfl (by omega) (by omega) ?_
  conv => whnf
  refine st_min 61 ?_
  conv => whnf
  refine st_cut 0 (min value.size 61) rfl rfl (by omega) (by omega) ?_
  conv => whnf
  have hn := cut61 name
  have hv := cut61 value
  generalize name.extract 0 (min name.size 61) = n at *
  generalize value.extract 0 (min value.size 61) = v at *
  have hnm := name_fn p n (by omega)
  have hnl : (bl n).length ≤ 61 := by rw [size_bl]; exact hn
  have hvl : (bl v).length ≤ 61 := by rw [size_bl]; exact hv
  refine st_catb [40] (bl n) (by simp only [List.length_cons, List.length_nil]; omega) ?_
  conv => whnf
  refine st_catb (40 :: bl n) [61] (by simp only [List.length_cons, List.length_nil]; omega) ?_
  conv => whnf
  refine ⟨Nat, fun i => ⟨75, [(0, .v (.str n)), (1, .v (.str v)), (5, .v (.bool true)), (6, .v (.str (bt' (40 :: bl n ++ [61] ++ ((bl v).take i).flatMap fun b => 92 :: Code.hexB b)))), (7, .v (.int .i64 (i : Nat)))], [], []⟩, fun i => i ≤ v.size, fun i => v.size - i, ⟨0, [], Nat.zero_le _, ?_⟩, fun i hi => ?_⟩
  · dsimp only
    rw [show (40 :: bl n ++ [61] ++ ((bl v).take 0).flatMap fun b => 92 :: Code.hexB b) = 40 :: bl n ++ [61] by simp]
    (focus ((repeat' (first | exact trivial | exact rfl | exact Or.inl rfl | exact Or.inr ⟨rfl, rfl⟩ | refine And.intro ?_ ?_)); done))
  have hfl := hex_len ((bl v).take i)
  rw [List.length_take] at hfl
  conv => whnf
  refine ⟨rfl, cmp_split (fun h => ?_) (fun h => ?_)⟩
  · have hil : i < v.size := by omega
    have hib : i < (bl v).length := by rw [size_bl]; exact hil
    conv => whnf
    refine st_catb (40 :: bl n ++ [61] ++ ((bl v).take i).flatMap fun b => 92 :: Code.hexB b) [92] (by simp only [List.length_cons, List.length_append, List.length_nil] at *; omega) ?_
    conv => whnf
    refine ⟨rfl, st_succ (by omega) ?_⟩
    conv => whnf
    refine st_cut i (i + 1) rfl rfl (by omega) (by omega) ?_
    conv => whnf
    have hone : bl (v.extract i (i + 1)) = [(bl v)[i]] := by
      show (v.extract i (i + 1)).data.toList = _
      rw [Lib.extract_data, show i + 1 - i = 1 by omega]
      show ((bl v).drop i).take 1 = _
      rw [List.drop_eq_getElem_cons hib]
      rfl
    have hh := hex_fn (X := envX p) (v.extract i (i + 1)) (by rw [ByteArray.size_extract]; omega)
    rw [hone] at hh
    (refine st_call hh ?_ rfl rfl ?_; (focus ((repeat' (first | exact trivial | exact rfl | exact Or.inl rfl | exact Or.inr ⟨rfl, rfl⟩ | refine And.intro ?_ ?_)); done)); conv => whnf)
    refine st_catb (40 :: bl n ++ [61] ++ (((bl v).take i).flatMap fun b => 92 :: Code.hexB b) ++ [92]) (Code.hexL [(bl v)[i]]) (by simp only [List.length_cons, List.length_append, List.length_nil, Code.hexL, Code.hexB, List.flatMap_cons, List.flatMap_nil] at *; omega) ?_
    conv => whnf
    refine ⟨rfl, st_succ (by omega) ?_⟩
    conv => whnf
    refine ⟨i + 1, [], by dsimp only; omega, by dsimp only; omega, ?_⟩
    have hts : (40 :: bl n ++ [61] ++ ((bl v).take (i + 1)).flatMap fun b => 92 :: Code.hexB b) = 40 :: bl n ++ [61] ++ (((bl v).take i).flatMap fun b => 92 :: Code.hexB b) ++ [92] ++ Code.hexL [(bl v)[i]] := by
      rw [List.take_succ_eq_append_getElem hib, List.flatMap_append]
      simp [Code.hexL]
    dsimp only
    rw [hts]
    (focus ((repeat' (first | exact trivial | exact rfl | exact Or.inl rfl | exact Or.inr ⟨rfl, rfl⟩ | refine And.intro ?_ ?_)); done))
  have hie : i = v.size := by omega
  subst hie
  rw [List.take_of_length_le (by rw [size_bl]; exact Nat.le_refl _)] at hfl
  rw [size_bl] at hfl
  conv => whnf
  rw [List.take_of_length_le (by rw [size_bl]; exact Nat.le_refl _)]
  refine st_catb (40 :: bl n ++ [61] ++ (bl v).flatMap fun b => 92 :: Code.hexB b) [41] (by simp only [List.length_cons, List.length_append, List.length_nil] at *; omega) ?_
  conv => whnf
  have hp := parse_fn p (bt' (40 :: bl n ++ [61] ++ ((bl v).flatMap fun b => 92 :: Code.hexB b) ++ [41])) (by rw [sz_bt]; simp only [List.length_cons, List.length_append, List.length_nil] at *; omega)
  rw [bl_of] at hp
  by_cases hg : nameB (bl n) = true ∧ v.size ≤ 60
  rotate_left
  · unfold paR at hp
    cases hpr : parsedF (40 :: bl n ++ [61] ++ ((bl v).flatMap fun b => 92 :: Code.hexB b) ++ [41]) with
    | none =>
      rw [hpr] at hp
      dsimp only at hp
      (refine st_call hp ?_ rfl rfl ?_; (focus ((repeat' (first | exact trivial | exact rfl | exact Or.inl rfl | exact Or.inr ⟨rfl, rfl⟩ | refine And.intro ?_ ?_)); done)); conv => whnf)
      cases hq : nameB (bl n)
      · rw [hq] at hnm
        (refine st_call hnm ?_ rfl rfl ?_; (focus ((repeat' (first | exact trivial | exact rfl | exact Or.inl rfl | exact Or.inr ⟨rfl, rfl⟩ | refine And.intro ?_ ?_)); done)); conv => whnf)
        refine ⟨rfl, cmp_false (by decide) ?_⟩
        conv => whnf
        refine cmp_true rfl ?_
        conv => whnf
        exact ⟨.inl rfl, rfl⟩
      · rw [hq] at hnm
        (refine st_call hnm ?_ rfl rfl ?_; (focus ((repeat' (first | exact trivial | exact rfl | exact Or.inl rfl | exact Or.inr ⟨rfl, rfl⟩ | refine And.intro ?_ ?_)); done)); conv => whnf)
        refine ⟨rfl, cmp_split (fun hv => ?_) (fun hv => ?_)⟩
        · conv => whnf
          refine ⟨rfl, cmp_false (by decide) ?_⟩
          conv => whnf
          refine cmp_true rfl ?_
          conv => whnf
          exact ⟨.inl rfl, rfl⟩
        · exact absurd ⟨hq, (by omega : v.size ≤ 60)⟩ hg
    | some f =>
      rw [hpr] at hp
      dsimp only at hp
      (refine st_call hp ?_ rfl rfl ?_; (focus ((repeat' (first | exact trivial | exact rfl | exact Or.inl rfl | exact Or.inr ⟨rfl, rfl⟩ | refine And.intro ?_ ?_)); done)); conv => whnf)
      cases hq : nameB (bl n)
      · rw [hq] at hnm
        (refine st_call hnm ?_ rfl rfl ?_; (focus ((repeat' (first | exact trivial | exact rfl | exact Or.inl rfl | exact Or.inr ⟨rfl, rfl⟩ | refine And.intro ?_ ?_)); done)); conv => whnf)
        refine ⟨rfl, cmp_true rfl ?_⟩
        conv => whnf
        exact ⟨.inl rfl, rfl⟩
      · rw [hq] at hnm
        (refine st_call hnm ?_ rfl rfl ?_; (focus ((repeat' (first | exact trivial | exact rfl | exact Or.inl rfl | exact Or.inr ⟨rfl, rfl⟩ | refine And.intro ?_ ?_)); done)); conv => whnf)
        refine ⟨rfl, cmp_split (fun hv => ?_) (fun hv => ?_)⟩
        · conv => whnf
          refine ⟨rfl, cmp_true rfl ?_⟩
          conv => whnf
          exact ⟨.inl rfl, rfl⟩
        · exact absurd ⟨hq, (by omega : v.size ≤ 60)⟩ hg
  obtain ⟨g1, g2⟩ := hg
  have hlaw := digits_law n v g1 g2
  rw [show 40 :: (bl n ++ 61 :: ((bl v).flatMap fun b => 92 :: Code.hexB b) ++ [41]) = (40 :: bl n ++ [61] ++ ((bl v).flatMap fun b => 92 :: Code.hexB b) ++ [41]) by simp] at hlaw
  unfold paR at hp
  rw [hlaw] at hp
  dsimp only at hp
  rw [g1] at hnm
  (refine st_call hp ?_ rfl rfl ?_; (focus ((repeat' (first | exact trivial | exact rfl | exact Or.inl rfl | exact Or.inr ⟨rfl, rfl⟩ | refine And.intro ?_ ?_)); done)); conv => whnf)
  (refine st_call hnm ?_ rfl rfl ?_; (focus ((repeat' (first | exact trivial | exact rfl | exact Or.inl rfl | exact Or.inr ⟨rfl, rfl⟩ | refine And.intro ?_ ?_)); done)); conv => whnf)
  refine ⟨rfl, cmp_false (by omega) ?_⟩
  conv => whnf
  refine ⟨rfl, cmp_true rfl ?_⟩
  conv => whnf
  have hm : midF (.mk 3 n v [] (bt' []) []) := ⟨by omega, by omega, Nat.zero_le _, Nat.zero_le _, Nat.zero_le _, trivial⟩
  have hsm := same_fn (X := envX p) _ _ hm hm
  rw [sameF_refl] at hsm
  (refine st_call hsm ?_ rfl rfl ?_; (focus ((repeat' (first | exact trivial | exact rfl | exact Or.inl rfl | exact Or.inr ⟨rfl, rfl⟩ | refine And.intro ?_ ?_)); done)); conv => whnf)
  exact ⟨.inl rfl, rfl⟩
end Go.Proofs.YtiafggoaedifdaaGreatDoor.Fi
/- filt's laws: a filter cut to eight deep, of each one's lists the first ten, texts at sixty-one bytes; a text cut at five hundred. No conditions. -/
namespace Go.Proofs.YtiafggoaedifdaaGreatDoor.Fi
open Go.RowKit Go.Shelf Go.Lib Fl
set_option linter.unusedVariables false
variable (p : Nat → Addr)
def cut61B (s : ByteArray) : ByteArray := s.extract 0 (min s.size 61)
def cutF : Nat → Flt → Flt
  | 0, .mk k n v a f _ => .mk k (cut61B n) (cut61B v) ((a.take 10).map cut61B) (cut61B f) []
  | d + 1, .mk k n v a f l => .mk k (cut61B n) (cut61B v) ((a.take 10).map cut61B) (cut61B f) ((l.take 10).map (cutF d))
def cutsF : Nat → Flt → List Flt
  | 0, _ => []
  | d + 1, f => (f.l.take 10).map (cutF d)
theorem cutF_eq : ∀ (d : Nat) (f : Flt), cutF d f = .mk f.kind (cut61B f.name) (cut61B f.value) ((f.any.take 10).map cut61B) (cut61B f.final) (cutsF d f)
  | 0, .mk k n v a f _ => rfl
  | d + 1, .mk k n v a f l => rfl
variable {X : En}
set_option maxHeartbeats 4000000 in
theorem cutAt_one (d : Nat) (f : Flt) (hd : d ≤ 100) (hrec : ∀ e, d = e + 1 → ∀ x : Flt, Fn Tryz.prog X 37 [.v (.agg (cG x)), .v (.int .i64 ((e + 1 : Nat) : Int))] (.v (.agg (cG (cutF e x))))) : Fn Tryz.prog X 37 [.v (.agg (cG f)), .v (.int .i64 ((d + 1 : Nat) : Int))] (.v (.agg (cG (cutF d f)))) := by
    refine fn_prog tabOk mixed Tryz.f37 Tryz.func37 (by kernel_rfl) (by kernel_rfl) ?_
    conv => whnf
    refine ⟨none, by kernel_rfl, ?_⟩; conv => whnf
    refine st_min 61 ?_
    conv => whnf
    refine st_cut 0 (min f.name.size 61) rfl rfl (by omega) (by omega) ?_
    conv => whnf
    refine st_min 61 ?_
    conv => whnf
    refine st_cut 0 (min f.value.size 61) rfl rfl (by omega) (by omega) ?_
    conv => whnf
    refine st_min 61 ?_
    conv => whnf
    refine st_cut 0 (min f.final.size 61) rfl rfl (by omega) (by omega) ?_
    conv => whnf
    refine ⟨Nat, fun i => ⟨90, [(1, .v (.int .i64 ((d + 1 : Nat) : Int))), (2, .ptr 2 0), (4, .ptr 4 0), (5, .ptr 5 0), (6, .v (.int .i64 (i : Nat)))], [(2, (cG f).map .v), (4, (cG (.mk 0 (bt' []) (bt' []) [] (bt' []) [])).map .v), (5, [.v (.int .i64 f.kind), .v (.str (cut61B f.name)), .v (.str (cut61B f.value)), .own 59 9 ((f.any.take i).map fun s => encS (cut61B s)), .v (.str (cut61B f.final)), .v .nils])], [(59, some 9)]⟩, fun i => i ≤ f.any.length ∧ i ≤ 10, fun i => f.any.length - i, ⟨0, [(59, none)], ⟨by omega, by omega⟩, ?_⟩, fun i ⟨hi, hi10⟩ => ?_⟩
    · (focus ((repeat' (first | exact trivial | exact rfl | exact Or.inl rfl | exact Or.inr ⟨rfl, rfl⟩ | refine And.intro ?_ ?_)); done))
    conv => whnf
    refine ⟨rfl, cmp_split (fun h => ?_) (fun h => ?_)⟩
    have hil : i < f.any.length := by rw [List.length_map] at h; omega
    conv => whnf
    refine ⟨rfl, cmp_split (fun h2 => ?_) (fun h2 => ?_)⟩
    · conv => whnf
      refine ⟨none, by kernel_rfl, ?_⟩; conv => whnf
      refine st_idx hil rfl ?_
      conv => whnf
      refine st_idx hil rfl ?_
      conv => whnf
      refine st_min 61 ?_
      conv => whnf
      refine st_cut 0 (min f.any[i].size 61) rfl rfl (by omega) (by omega) ?_
      conv => whnf
      refine st_app (by simp; omega) (by simp [V.cells]) (map_take_succ (enc := fun s => encS (cut61B s)) hil) ?_
      conv => whnf
      refine ⟨rfl, st_succ (by omega) ?_⟩
      conv => whnf
      refine ⟨i + 1, [(59, some 59)], ⟨by omega, by omega⟩, by dsimp only; omega, ?_⟩
      (focus ((repeat' (first | exact trivial | exact rfl | exact Or.inl rfl | exact Or.inr ⟨rfl, rfl⟩ | refine And.intro ?_ ?_)); done))
    all_goals
      have hany : ((f.any.take i).map fun s => encS (cut61B s)) = ((f.any.take 10).map cut61B).map encS := by
        rw [List.map_map]
        have : f.any.take i = f.any.take 10 := by
          rw [List.length_map] at h
          by_cases h10 : f.any.length ≤ i
          · rw [List.take_of_length_le h10, List.take_of_length_le (by omega)]
          · rw [show i = 10 by omega]
        rw [this]; rfl
      clear h
      conv => whnf
      rw [hany]
      refine ⟨Nat, fun j => ⟨90, [(1, .v (.int .i64 ((d + 1 : Nat) : Int))), (2, .ptr 2 0), (4, .ptr 4 0), (5, .ptr 5 0), (7, .v (.int .i64 (j : Nat)))], [(2, (cG f).map .v), (4, (cG (.mk 0 (bt' []) (bt' []) [] (bt' []) [])).map .v), (5, [.v (.int .i64 f.kind), .v (.str (cut61B f.name)), .v (.str (cut61B f.value)), .own 59 9 (((f.any.take 10).map cut61B).map encS), .v (.str (cut61B f.final)), .own 87 25 ((f.l.take j).map fun x => cG (cutF (d - 1) x))])], [(59, some 9), (87, some 25)]⟩, fun j => j ≤ f.l.length ∧ j ≤ 10 ∧ (d = 0 → j = 0), fun j => f.l.length - j, ⟨0, [(59, some 59), (87, none)], ⟨by omega, by omega, fun _ => rfl⟩, ?_⟩, fun j ⟨hj, hj10, hd0⟩ => ?_⟩
      · (focus ((repeat' (first | exact trivial | exact rfl | exact Or.inl rfl | exact Or.inr ⟨rfl, rfl⟩ | refine And.intro ?_ ?_)); done))
      conv => whnf
      refine ⟨rfl, cmp_split (fun h => ?_) (fun h => ?_)⟩
      have hjl : j < f.l.length := by rw [List.length_map] at h; omega
      conv => whnf
      refine ⟨rfl, cmp_split (fun h2 => ?_) (fun h2 => ?_)⟩
      conv => whnf
      refine ⟨rfl, cmp_split (fun h3 => ?_) (fun h3 => ?_)⟩
      · conv => whnf
        refine ⟨none, by kernel_rfl, ?_⟩; conv => whnf
        refine st_idxF hjl ?_
        conv => whnf
        obtain ⟨e, rfl⟩ : ∃ e, d = e + 1 := ⟨d - 1, by omega⟩
        refine st_minus (e + 1 + 1) 1 (by omega) (by omega) ?_
        conv => whnf
        (refine st_call (hrec e rfl f.l[j]) ?_ rfl rfl ?_; (focus ((repeat' (first | exact trivial | exact rfl | exact Or.inl rfl | exact Or.inr ⟨rfl, rfl⟩ | refine And.intro ?_ ?_)); done)); conv => whnf)
        refine st_app (by simp; omega) (by simp [V.cells]) (map_take_succ (enc := fun x => cG (cutF e x)) hjl) ?_
        conv => whnf
        refine ⟨rfl, st_succ (by omega) ?_⟩
        conv => whnf
        refine ⟨j + 1, [(59, some 59), (87, some 87)], ⟨by omega, by omega, fun h => by omega⟩, by dsimp only; omega, ?_⟩
        (focus ((repeat' (first | exact trivial | exact rfl | exact Or.inl rfl | exact Or.inr ⟨rfl, rfl⟩ | refine And.intro ?_ ?_)); done))
      all_goals
        have hl : ((f.l.take j).map fun x => cG (cutF (d - 1) x)) = (cutsF d f).map cF := by
          rw [List.length_map] at h
          cases d with
          | zero => rw [hd0 rfl]; rfl
          | succ e =>
            show _ = ((f.l.take 10).map (cutF e)).map cF
            rw [List.map_map, show f.l.take j = f.l.take 10 by
              by_cases h10 : f.l.length ≤ j
              · rw [List.take_of_length_le h10, List.take_of_length_le (by omega)]
              · rw [show j = 10 by omega]]
            exact List.map_congr_left fun x _ => (cG_eq _).symm
        conv => whnf
        rw [hl, cutF_eq]
        exact ⟨.inl rfl, rfl⟩
theorem cutAt_fn : ∀ (d : Nat), d ≤ 100 → ∀ f : Flt, Fn Tryz.prog X 37 [.v (.agg (cG f)), .v (.int .i64 ((d + 1 : Nat) : Int))] (.v (.agg (cG (cutF d f))))
  | 0, hd, f => cutAt_one 0 f hd (fun e h => by cases h)
  | d + 1, hd, f => cutAt_one (d + 1) f hd (fun e h x => by
      obtain rfl : d = e := by omega
      exact cutAt_fn d (by omega) x)
def CutF (f : Flt) : Flt := cutF 7 f
theorem CutF_fn (f : Flt) : Fn Tryz.prog X 17 [.v (.agg (cG f))] (.v (.agg (cG (CutF f)))) := by
  refine fn_prog tabOk mixed Tryz.f17 Tryz.func17 (by kernel_rfl) (by kernel_rfl) ?_
  conv => whnf
  (refine st_call (cutAt_fn 7 (by omega) f) ?_ rfl rfl ?_; (focus ((repeat' (first | exact trivial | exact rfl | exact Or.inl rfl | exact Or.inr ⟨rfl, rfl⟩ | refine And.intro ?_ ?_)); done)); conv => whnf)
  exact ⟨.inl rfl, rfl⟩
def cut500 (s : ByteArray) : ByteArray := s.extract 0 (min s.size 500)
theorem cutS_fn (s : ByteArray) : Fn Tryz.prog X 18 [.v (.str s)] (.v (.str (cut500 s))) := by
  refine fn_prog tabOk mixed Tryz.f18 Tryz.func18 (by kernel_rfl) (by kernel_rfl) ?_
  conv => whnf
  refine st_min 500 ?_
  conv => whnf
  refine st_cut 0 (min s.size 500) rfl rfl (by omega) (by omega) ?_
  conv => whnf
  exact ⟨.inl rfl, rfl⟩
theorem cut61_size (s : ByteArray) : (cut61B s).size ≤ 61 := by unfold cut61B; rw [ByteArray.size_extract]; omega
mutual
theorem cut_mid : ∀ (d : Nat) (f : Flt), midF (cutF d f)
  | 0, .mk k n v a f _ => ⟨Nat.le_trans (cut61_size n) (by decide), Nat.le_trans (cut61_size v) (by decide), Nat.le_trans (cut61_size f) (by decide), by rw [List.length_map, List.length_take]; omega, Nat.zero_le _, trivial⟩
  | d + 1, .mk k n v a f l => ⟨Nat.le_trans (cut61_size n) (by decide), Nat.le_trans (cut61_size v) (by decide), Nat.le_trans (cut61_size f) (by decide), by rw [List.length_map, List.length_take]; omega, by rw [List.length_map, List.length_take]; omega, cuts_mid d (l.take 10)⟩
theorem cuts_mid : ∀ (d : Nat) (l : List Flt), midFs (l.map (cutF d))
  | _, [] => trivial
  | d, x :: r => ⟨cut_mid d x, cuts_mid d r⟩
end
def cutN : Nat → Nat
  | 0 => 1
  | d + 1 => 1 + 10 * cutN d
mutual
theorem cut_cnt : ∀ (d k : Nat) (f : Flt), (preF k (cutF d f)).length ≤ cutN d
  | 0, k, .mk _ _ _ _ _ _ => by
    rw [cutF, preF, preFs]; exact Nat.le_refl _
  | d + 1, k, .mk _ _ _ _ _ l => by
    have h := cuts_cnt d (k + 1) (l.take 10)
    have h2 : (l.take 10).length * cutN d ≤ 10 * cutN d := Nat.mul_le_mul_right _ (by rw [List.length_take]; omega)
    rw [cutF, preF, List.length_cons, cutN]
    omega
theorem cuts_cnt : ∀ (d k : Nat) (l : List Flt), (preFs k (l.map (cutF d))).length ≤ l.length * cutN d
  | _, _, [] => Nat.zero_le _
  | d, k, x :: r => by
    have h1 := cut_cnt d k x
    have h2 := cuts_cnt d k r
    rw [List.map_cons, preFs, List.length_append, List.length_cons, Nat.succ_mul]
    omega
end
theorem Cut_mid (f : Flt) : midF (CutF f) := cut_mid 7 f
theorem Cut_cnt (k : Nat) (f : Flt) : (preF k (CutF f)).length ≤ 11111111 := cut_cnt 7 k f
theorem f0_right : rightF 1 f0 = false := by decide +kernel
theorem f0_mid : midF f0 := ⟨by decide, by decide, by decide, by decide, by decide, trivial⟩
end Go.Proofs.YtiafggoaedifdaaGreatDoor.Fi
/- The statements FiltBack, FiltWraps, FiltSets, FiltNames of latinerlaw08, walked. -/
namespace Go.Proofs.YtiafggoaedifdaaGreatDoor.Fi
open Go.RowKit Go.Shelf Go.Lib Fl
set_option linter.unusedVariables false
variable (p : Nat → Addr)
theorem parsed_nil : parsedF [] = none := by decide +kernel
set_option maxHeartbeats 8000000 in
theorem back_fn (x : Flt) (s : ByteArray) : Fn Tryz.prog (envX p) 3 [.v (.agg (cG x)), .v (.str s)] (.v (.bool true)) := by
  have hm := Cut_mid x
  have hN := Cut_cnt 1 x
  have hs : (cut500 s).size ≤ 500 := by unfold cut500; rw [ByteArray.size_extract]; omega
  have hcx := CutF_fn (X := envX p) x
  have hcs := cutS_fn (X := envX p) s
  generalize CutF x = f at *
  generalize cut500 s = z at *
  have hp := print_fn p f hm (by omega)
  have hr := right_fn p f hm (by omega)
  unfold prR at hp
  have hz := parse_fn p z (by omega)
  unfold paR at hz
  have hn := parse_fn p (bt' []) (by decide)
  unfold paR at hn
  rw [show bl (bt' []) = [] from rfl, parsed_nil] at hn
  dsimp only at hn
  have hp0 := print_fn p f0 f0_mid (by decide)
  unfold prR at hp0
  rw [f0_right, if_neg (by decide)] at hp0
  refine fn_prog tabOk mixed Tryz.f3 Tryz.func3 (by kernel_rfl) (by kernel_rfl) ?_
  conv => whnf
  (refine st_call (shown_fn p) ?_ rfl rfl ?_; (focus ((repeat' (first | exact trivial | exact rfl | exact Or.inl rfl | exact Or.inr ⟨rfl, rfl⟩ | refine And.intro ?_ ?_)); done)); conv => whnf)
  (refine st_call hcx ?_ rfl rfl ?_; (focus ((repeat' (first | exact trivial | exact rfl | exact Or.inl rfl | exact Or.inr ⟨rfl, rfl⟩ | refine And.intro ?_ ?_)); done)); conv => whnf)
  (refine st_call hcs ?_ rfl rfl ?_; (focus ((repeat' (first | exact trivial | exact rfl | exact Or.inl rfl | exact Or.inr ⟨rfl, rfl⟩ | refine And.intro ?_ ?_)); done)); conv => whnf)
  cases hR : rightF 1 f
  · rw [hR, if_neg (by decide)] at hp
    rw [hR] at hr
    (refine st_call hp ?_ rfl rfl ?_; (focus ((repeat' (first | exact trivial | exact rfl | exact Or.inl rfl | exact Or.inr ⟨rfl, rfl⟩ | refine And.intro ?_ ?_)); done)); conv => whnf)
    (refine st_call hn ?_ rfl rfl ?_; (focus ((repeat' (first | exact trivial | exact rfl | exact Or.inl rfl | exact Or.inr ⟨rfl, rfl⟩ | refine And.intro ?_ ?_)); done)); conv => whnf)
    cases hq : parsedF (bl z) with
    | none =>
      rw [hq] at hz
      dsimp only at hz
      (repeat' (first | ((refine ⟨rfl, cmp_true rfl ?_⟩) <;> (conv => whnf)) | ((refine ⟨rfl, cmp_true (by decide) ?_⟩) <;> (conv => whnf)) | ((refine ⟨rfl, cmp_false (by decide) ?_⟩) <;> (conv => whnf)) | ((refine cmp_true rfl ?_) <;> (conv => whnf)) | (((with_reducible apply st_call (hz)); (focus ((repeat' (first | exact trivial | exact rfl | exact Or.inl rfl | exact Or.inr ⟨rfl, rfl⟩ | refine And.intro ?_ ?_)); done)); (focus (exact rfl)); (focus (exact rfl))) <;> (conv => whnf)) | (((with_reducible apply st_call (hp0)); (focus ((repeat' (first | exact trivial | exact rfl | exact Or.inl rfl | exact Or.inr ⟨rfl, rfl⟩ | refine And.intro ?_ ?_)); done)); (focus (exact rfl)); (focus (exact rfl))) <;> (conv => whnf)) | (((with_reducible apply st_call (hn)); (focus ((repeat' (first | exact trivial | exact rfl | exact Or.inl rfl | exact Or.inr ⟨rfl, rfl⟩ | refine And.intro ?_ ?_)); done)); (focus (exact rfl)); (focus (exact rfl))) <;> (conv => whnf)) | (((with_reducible apply st_call (hr)); (focus ((repeat' (first | exact trivial | exact rfl | exact Or.inl rfl | exact Or.inr ⟨rfl, rfl⟩ | refine And.intro ?_ ?_)); done)); (focus (exact rfl)); (focus (exact rfl))) <;> (conv => whnf)) | fail))
      exact ⟨.inl rfl, rfl⟩
    | some a =>
      rw [hq] at hz
      dsimp only at hz
      have ha := parsed_right hq
      have ham := mid_right 1 a ha
      have hac := cnt_bound ha
      have hpa := print_fn p a ham hac
      have hra := right_fn p a ham hac
      unfold prR at hpa
      rw [if_pos ha] at hpa
      rw [ha] at hra
      have hpb := parse_fn p (bt' (prF a)) (by rw [sz_bt]; exact pr_bound (Nat.le_refl 1) ha)
      unfold paR at hpb
      rw [bl_of, parsed_print a ha] at hpb
      dsimp only at hpb
      have hsm := same_fn (X := envX p) a a ham ham
      rw [sameF_refl] at hsm
      (repeat' (first | ((refine ⟨rfl, cmp_true rfl ?_⟩) <;> (conv => whnf)) | ((refine ⟨rfl, cmp_true (by decide) ?_⟩) <;> (conv => whnf)) | ((refine ⟨rfl, cmp_false (by decide) ?_⟩) <;> (conv => whnf)) | ((refine cmp_true rfl ?_) <;> (conv => whnf)) | (((with_reducible apply st_call (hz)); (focus ((repeat' (first | exact trivial | exact rfl | exact Or.inl rfl | exact Or.inr ⟨rfl, rfl⟩ | refine And.intro ?_ ?_)); done)); (focus (exact rfl)); (focus (exact rfl))) <;> (conv => whnf)) | (((with_reducible apply st_call (hpa)); (focus ((repeat' (first | exact trivial | exact rfl | exact Or.inl rfl | exact Or.inr ⟨rfl, rfl⟩ | refine And.intro ?_ ?_)); done)); (focus (exact rfl)); (focus (exact rfl))) <;> (conv => whnf)) | (((with_reducible apply st_call (hpb)); (focus ((repeat' (first | exact trivial | exact rfl | exact Or.inl rfl | exact Or.inr ⟨rfl, rfl⟩ | refine And.intro ?_ ?_)); done)); (focus (exact rfl)); (focus (exact rfl))) <;> (conv => whnf)) | (((with_reducible apply st_call (hra)); (focus ((repeat' (first | exact trivial | exact rfl | exact Or.inl rfl | exact Or.inr ⟨rfl, rfl⟩ | refine And.intro ?_ ?_)); done)); (focus (exact rfl)); (focus (exact rfl))) <;> (conv => whnf)) | (((with_reducible apply st_call (hsm)); (focus ((repeat' (first | exact trivial | exact rfl | exact Or.inl rfl | exact Or.inr ⟨rfl, rfl⟩ | refine And.intro ?_ ?_)); done)); (focus (exact rfl)); (focus (exact rfl))) <;> (conv => whnf)) | (((with_reducible apply st_call (hr)); (focus ((repeat' (first | exact trivial | exact rfl | exact Or.inl rfl | exact Or.inr ⟨rfl, rfl⟩ | refine And.intro ?_ ?_)); done)); (focus (exact rfl)); (focus (exact rfl))) <;> (conv => whnf)) | fail))
      exact ⟨.inl rfl, rfl⟩
  · rw [hR, if_pos rfl] at hp
    rw [hR] at hr
    have hpf := parse_fn p (bt' (prF f)) (by rw [sz_bt]; exact pr_bound (Nat.le_refl 1) hR)
    unfold paR at hpf
    rw [bl_of, parsed_print f hR] at hpf
    dsimp only at hpf
    have hsf := same_fn (X := envX p) f f hm hm
    rw [sameF_refl] at hsf
    (refine st_call hp ?_ rfl rfl ?_; (focus ((repeat' (first | exact trivial | exact rfl | exact Or.inl rfl | exact Or.inr ⟨rfl, rfl⟩ | refine And.intro ?_ ?_)); done)); conv => whnf)
    (refine st_call hpf ?_ rfl rfl ?_; (focus ((repeat' (first | exact trivial | exact rfl | exact Or.inl rfl | exact Or.inr ⟨rfl, rfl⟩ | refine And.intro ?_ ?_)); done)); conv => whnf)
    cases hq : parsedF (bl z) with
    | none =>
      rw [hq] at hz
      dsimp only at hz
      (repeat' (first | ((refine ⟨rfl, cmp_true rfl ?_⟩) <;> (conv => whnf)) | ((refine ⟨rfl, cmp_true (by decide) ?_⟩) <;> (conv => whnf)) | ((refine ⟨rfl, cmp_false (by decide) ?_⟩) <;> (conv => whnf)) | ((refine cmp_true rfl ?_) <;> (conv => whnf)) | (((with_reducible apply st_call (hz)); (focus ((repeat' (first | exact trivial | exact rfl | exact Or.inl rfl | exact Or.inr ⟨rfl, rfl⟩ | refine And.intro ?_ ?_)); done)); (focus (exact rfl)); (focus (exact rfl))) <;> (conv => whnf)) | (((with_reducible apply st_call (hp0)); (focus ((repeat' (first | exact trivial | exact rfl | exact Or.inl rfl | exact Or.inr ⟨rfl, rfl⟩ | refine And.intro ?_ ?_)); done)); (focus (exact rfl)); (focus (exact rfl))) <;> (conv => whnf)) | (((with_reducible apply st_call (hn)); (focus ((repeat' (first | exact trivial | exact rfl | exact Or.inl rfl | exact Or.inr ⟨rfl, rfl⟩ | refine And.intro ?_ ?_)); done)); (focus (exact rfl)); (focus (exact rfl))) <;> (conv => whnf)) | (((with_reducible apply st_call (hr)); (focus ((repeat' (first | exact trivial | exact rfl | exact Or.inl rfl | exact Or.inr ⟨rfl, rfl⟩ | refine And.intro ?_ ?_)); done)); (focus (exact rfl)); (focus (exact rfl))) <;> (conv => whnf)) | (((with_reducible apply st_call (hsf)); (focus ((repeat' (first | exact trivial | exact rfl | exact Or.inl rfl | exact Or.inr ⟨rfl, rfl⟩ | refine And.intro ?_ ?_)); done)); (focus (exact rfl)); (focus (exact rfl))) <;> (conv => whnf)) | fail))
      exact ⟨.inl rfl, rfl⟩
    | some a =>
      rw [hq] at hz
      dsimp only at hz
      have ha := parsed_right hq
      have ham := mid_right 1 a ha
      have hac := cnt_bound ha
      have hpa := print_fn p a ham hac
      have hra := right_fn p a ham hac
      unfold prR at hpa
      rw [if_pos ha] at hpa
      rw [ha] at hra
      have hpb := parse_fn p (bt' (prF a)) (by rw [sz_bt]; exact pr_bound (Nat.le_refl 1) ha)
      unfold paR at hpb
      rw [bl_of, parsed_print a ha] at hpb
      dsimp only at hpb
      have hsm := same_fn (X := envX p) a a ham ham
      rw [sameF_refl] at hsm
      (repeat' (first | ((refine ⟨rfl, cmp_true rfl ?_⟩) <;> (conv => whnf)) | ((refine ⟨rfl, cmp_true (by decide) ?_⟩) <;> (conv => whnf)) | ((refine ⟨rfl, cmp_false (by decide) ?_⟩) <;> (conv => whnf)) | ((refine cmp_true rfl ?_) <;> (conv => whnf)) | (((with_reducible apply st_call (hz)); (focus ((repeat' (first | exact trivial | exact rfl | exact Or.inl rfl | exact Or.inr ⟨rfl, rfl⟩ | refine And.intro ?_ ?_)); done)); (focus (exact rfl)); (focus (exact rfl))) <;> (conv => whnf)) | (((with_reducible apply st_call (hpa)); (focus ((repeat' (first | exact trivial | exact rfl | exact Or.inl rfl | exact Or.inr ⟨rfl, rfl⟩ | refine And.intro ?_ ?_)); done)); (focus (exact rfl)); (focus (exact rfl))) <;> (conv => whnf)) | (((with_reducible apply st_call (hpb)); (focus ((repeat' (first | exact trivial | exact rfl | exact Or.inl rfl | exact Or.inr ⟨rfl, rfl⟩ | refine And.intro ?_ ?_)); done)); (focus (exact rfl)); (focus (exact rfl))) <;> (conv => whnf)) | (((with_reducible apply st_call (hra)); (focus ((repeat' (first | exact trivial | exact rfl | exact Or.inl rfl | exact Or.inr ⟨rfl, rfl⟩ | refine And.intro ?_ ?_)); done)); (focus (exact rfl)); (focus (exact rfl))) <;> (conv => whnf)) | (((with_reducible apply st_call (hsm)); (focus ((repeat' (first | exact trivial | exact rfl | exact Or.inl rfl | exact Or.inr ⟨rfl, rfl⟩ | refine And.intro ?_ ?_)); done)); (focus (exact rfl)); (focus (exact rfl))) <;> (conv => whnf)) | (((with_reducible apply st_call (hr)); (focus ((repeat' (first | exact trivial | exact rfl | exact Or.inl rfl | exact Or.inr ⟨rfl, rfl⟩ | refine And.intro ?_ ?_)); done)); (focus (exact rfl)); (focus (exact rfl))) <;> (conv => whnf)) | (((with_reducible apply st_call (hsf)); (focus ((repeat' (first | exact trivial | exact rfl | exact Or.inl rfl | exact Or.inr ⟨rfl, rfl⟩ | refine And.intro ?_ ?_)); done)); (focus (exact rfl)); (focus (exact rfl))) <;> (conv => whnf)) | fail))
      exact ⟨.inl rfl, rfl⟩
theorem names_len (f : Flt) : (namesF f).length ≤ (preF 1 f).length := by
  unfold namesF
  split
  · rw [nm_pre 1 f]; exact List.length_filterMap_le _ _
  · exact Nat.zero_le _
set_option maxHeartbeats 8000000 in
theorem wraps_fn (x : Flt) : Fn Tryz.prog (envX p) 4 [.v (.agg (cG x))] (.v (.bool true)) := by
  have hm := Cut_mid x
  have hN := Cut_cnt 1 x
  have hN2 := Cut_cnt 2 x
  have hcx := CutF_fn (X := envX p) x
  generalize CutF x = f at *
  have hp := print_fn p f hm (by omega)
  unfold prR at hp
  have hnm := names_fn p f hm (by omega)
  have hm2 : midF (.mk 2 (bt' []) (bt' []) [] (bt' []) [f]) := ⟨by decide, by decide, by decide, by decide, by show 1 ≤ 100000000; decide, hm, trivial⟩
  have hN3 : (preF 1 (.mk 2 (bt' []) (bt' []) [] (bt' []) [f])).length ≤ 900000000 := by
    rw [preF, preFs, preFs, List.append_nil, List.length_cons, show (1 + 1 : Nat) = 2 from rfl]; omega
  have hq := print_fn p _ hm2 hN3
  have hnq := names_fn p _ hm2 hN3
  have e : cG (.mk 2 (bt' []) (bt' []) [] (bt' []) [f]) = [.int .i64 2, .str (bt' []), .str (bt' []), .sl [], .str (bt' []), .sl [cG f]] := by rw [← cG_eq f]; rfl
  rw [e] at hq hnq
  unfold prR at hq
  refine fn_prog tabOk mixed Tryz.f4 Tryz.func4 (by kernel_rfl) (by kernel_rfl) ?_
  conv => whnf
  (refine st_call (shown_fn p) ?_ rfl rfl ?_; (focus ((repeat' (first | exact trivial | exact rfl | exact Or.inl rfl | exact Or.inr ⟨rfl, rfl⟩ | refine And.intro ?_ ?_)); done)); conv => whnf)
  (refine st_call hcx ?_ rfl rfl ?_; (focus ((repeat' (first | exact trivial | exact rfl | exact Or.inl rfl | exact Or.inr ⟨rfl, rfl⟩ | refine And.intro ?_ ?_)); done)); conv => whnf)
  cases hR : rightF 1 (.mk 2 (bt' []) (bt' []) [] (bt' []) [f])
  · rw [hR, if_neg (by decide)] at hq
    cases hR2 : rightF 1 f
    · rw [hR2, if_neg (by decide)] at hp
      (refine st_call hp ?_ rfl rfl ?_; (focus ((repeat' (first | exact trivial | exact rfl | exact Or.inl rfl | exact Or.inr ⟨rfl, rfl⟩ | refine And.intro ?_ ?_)); done)); conv => whnf)
      (refine st_call hq ?_ rfl rfl ?_; (focus ((repeat' (first | exact trivial | exact rfl | exact Or.inl rfl | exact Or.inr ⟨rfl, rfl⟩ | refine And.intro ?_ ?_)); done)); conv => whnf)
      (repeat' (first | ((refine ⟨rfl, cmp_true rfl ?_⟩) <;> (conv => whnf)) | ((refine ⟨rfl, cmp_true (by decide) ?_⟩) <;> (conv => whnf)) | ((refine ⟨rfl, cmp_false (by decide) ?_⟩) <;> (conv => whnf)) | ((refine cmp_true rfl ?_) <;> (conv => whnf)) | fail))
      exact ⟨.inl rfl, rfl⟩
    · rw [hR2, if_pos rfl] at hp
      (refine st_call hp ?_ rfl rfl ?_; (focus ((repeat' (first | exact trivial | exact rfl | exact Or.inl rfl | exact Or.inr ⟨rfl, rfl⟩ | refine And.intro ?_ ?_)); done)); conv => whnf)
      (refine st_call hq ?_ rfl rfl ?_; (focus ((repeat' (first | exact trivial | exact rfl | exact Or.inl rfl | exact Or.inr ⟨rfl, rfl⟩ | refine And.intro ?_ ?_)); done)); conv => whnf)
      (repeat' (first | ((refine ⟨rfl, cmp_true rfl ?_⟩) <;> (conv => whnf)) | ((refine ⟨rfl, cmp_true (by decide) ?_⟩) <;> (conv => whnf)) | ((refine ⟨rfl, cmp_false (by decide) ?_⟩) <;> (conv => whnf)) | ((refine cmp_true rfl ?_) <;> (conv => whnf)) | fail))
      exact ⟨.inl rfl, rfl⟩
  · have hR2 := wraps_right hR
    rw [hR, if_pos rfl, wraps_text] at hq
    rw [hR2, if_pos rfl] at hp
    have hlen := pr_bound (Nat.le_refl 1) hR2
    have ht := texts_fn (X := envX p) (namesF f) (namesF f) (by
      have := names_len f
      omega)
    rw [decide_eq_true rfl] at ht
    have hnn : namesF (.mk 2 (bt' []) (bt' []) [] (bt' []) [f]) = namesF f := by
      unfold namesF
      rw [if_pos hR, if_pos hR2, wraps_names]
    rw [hnn] at hnq
    (refine st_call hp ?_ rfl rfl ?_; (focus ((repeat' (first | exact trivial | exact rfl | exact Or.inl rfl | exact Or.inr ⟨rfl, rfl⟩ | refine And.intro ?_ ?_)); done)); conv => whnf)
    (refine st_call hq ?_ rfl rfl ?_; (focus ((repeat' (first | exact trivial | exact rfl | exact Or.inl rfl | exact Or.inr ⟨rfl, rfl⟩ | refine And.intro ?_ ?_)); done)); conv => whnf)
    (repeat' (first | ((refine ⟨rfl, cmp_true rfl ?_⟩) <;> (conv => whnf)) | ((refine ⟨rfl, cmp_true (by decide) ?_⟩) <;> (conv => whnf)) | ((refine ⟨rfl, cmp_false (by decide) ?_⟩) <;> (conv => whnf)) | ((refine cmp_true rfl ?_) <;> (conv => whnf)) | fail))
    refine ⟨some [0, 1, 2, 3, 4, 5, 6, 7, 8, 9, 10, 11, 12, 13, 15, 14, 16, 17, 18, 19], by kernel_rfl, ?_⟩; conv => whnf
    refine ⟨rfl, cmp_true rfl ?_⟩
    conv => whnf
    refine st_catb [40, 33] (prF f) (by show 2 + _ ≤ _; omega) ?_
    conv => whnf
    refine st_catb (40 :: 33 :: prF f) [41] (by simp only [List.length_cons, List.length_nil]; omega) ?_
    conv => whnf
    refine cmp_true rfl ?_
    conv => whnf
    (refine st_call hnm ?_ rfl rfl ?_; (focus ((repeat' (first | exact trivial | exact rfl | exact Or.inl rfl | exact Or.inr ⟨rfl, rfl⟩ | refine And.intro ?_ ?_)); done)); conv => whnf)
    (refine st_call hnq ?_ rfl rfl ?_; (focus ((repeat' (first | exact trivial | exact rfl | exact Or.inl rfl | exact Or.inr ⟨rfl, rfl⟩ | refine And.intro ?_ ?_)); done)); conv => whnf)
    (refine st_call ht ?_ rfl rfl ?_; (focus ((repeat' (first | exact trivial | exact rfl | exact Or.inl rfl | exact Or.inr ⟨rfl, rfl⟩ | refine And.intro ?_ ?_)); done)); conv => whnf)
    exact ⟨.inl rfl, rfl⟩
set_option maxHeartbeats 8000000 in
theorem names_law (x : Flt) : Fn Tryz.prog (envX p) 8 [.v (.agg (cG x))] (.v (.bool true)) := by
  have hm := Cut_mid x
  have hN := Cut_cnt 1 x
  have hcx := CutF_fn (X := envX p) x
  generalize CutF x = f at *
  have hr := right_fn p f hm (by omega)
  have hnm := names_fn p f hm (by omega)
  have hnl := names_len f
  refine fn_prog tabOk mixed Tryz.f8 Tryz.func8 (by kernel_rfl) (by kernel_rfl) ?_
  conv => whnf
  (refine st_call (shown_fn p) ?_ rfl rfl ?_; (focus ((repeat' (first | exact trivial | exact rfl | exact Or.inl rfl | exact Or.inr ⟨rfl, rfl⟩ | refine And.intro ?_ ?_)); done)); conv => whnf)
  (refine st_call hcx ?_ rfl rfl ?_; (focus ((repeat' (first | exact trivial | exact rfl | exact Or.inl rfl | exact Or.inr ⟨rfl, rfl⟩ | refine And.intro ?_ ?_)); done)); conv => whnf)
  (refine st_call hnm ?_ rfl rfl ?_; (focus ((repeat' (first | exact trivial | exact rfl | exact Or.inl rfl | exact Or.inr ⟨rfl, rfl⟩ | refine And.intro ?_ ?_)); done)); conv => whnf)
  refine ⟨Nat, fun i => ⟨50, [(1, .ptr 1 0), (3, .v (.bool true)), (4, .v (.sl ((namesF f).map encS))), (5, .v (.int .i64 (i : Nat)))], [(1, (cG f).map .v)], []⟩, fun i => i ≤ (namesF f).length, fun i => (namesF f).length - i, ⟨0, [], Nat.zero_le _, ?_⟩, fun i hi => ?_⟩
  · (focus ((repeat' (first | exact trivial | exact rfl | exact Or.inl rfl | exact Or.inr ⟨rfl, rfl⟩ | refine And.intro ?_ ?_)); done))
  conv => whnf
  refine ⟨rfl, cmp_split (fun h => ?_) (fun h => ?_)⟩
  · rw [List.length_map] at h
    have hil : i < (namesF f).length := by omega
    have hnb : nameB (bl (namesF f)[i]) = true := by
      have hmem : (namesF f)[i] ∈ namesF f := List.getElem_mem hil
      have hall : ∀ n ∈ namesF f, nameB (bl n) = true := by
        unfold namesF
        split
        · rename_i hR; exact (names_right 1 f hR).2
        · intro n hn; cases hn
      exact hall _ hmem
    have hsz : (namesF f)[i].size ≤ 100000000 := by
      have h30 : (bl (namesF f)[i]).length ≤ 30 := by
        unfold nameB at hnb
        rw [Bool.and_eq_true] at hnb
        exact of_decide_eq_true hnb.1
      rw [size_bl] at h30
      omega
    have hname := name_fn p (namesF f)[i] hsz
    rw [hnb] at hname
    conv => whnf
    refine st_idx hil rfl ?_
    conv => whnf
    (refine st_call hname ?_ rfl rfl ?_; (focus ((repeat' (first | exact trivial | exact rfl | exact Or.inl rfl | exact Or.inr ⟨rfl, rfl⟩ | refine And.intro ?_ ?_)); done)); conv => whnf)
    refine ⟨rfl, st_succ (by omega) ?_⟩
    conv => whnf
    refine ⟨i + 1, [], by dsimp only; omega, by dsimp only; omega, ?_⟩
    (focus ((repeat' (first | exact trivial | exact rfl | exact Or.inl rfl | exact Or.inr ⟨rfl, rfl⟩ | refine And.intro ?_ ?_)); done))
  conv => whnf
  cases hR : rightF 1 f
  · rw [hR] at hr
    have hn0 : namesF f = [] := by unfold namesF; rw [hR, if_neg (by decide)]
    (refine st_call hr ?_ rfl rfl ?_; (focus ((repeat' (first | exact trivial | exact rfl | exact Or.inl rfl | exact Or.inr ⟨rfl, rfl⟩ | refine And.intro ?_ ?_)); done)); conv => whnf)
    refine ⟨rfl, cmp_true (by rw [hn0]; rfl) ?_⟩
    conv => whnf
    exact ⟨.inl rfl, rfl⟩
  · rw [hR] at hr
    (refine st_call hr ?_ rfl rfl ?_; (focus ((repeat' (first | exact trivial | exact rfl | exact Or.inl rfl | exact Or.inr ⟨rfl, rfl⟩ | refine And.intro ?_ ?_)); done)); conv => whnf)
    have hne : namesF f ≠ [] := by unfold namesF; rw [if_pos hR]; exact (names_right 1 f hR).1
    have hge : 1 ≤ (namesF f).length := by
      cases hc : namesF f with
      | nil => exact absurd hc hne
      | cons a r => simp
    refine ⟨rfl, cmp_true (by rw [List.length_map]; omega) ?_⟩
    conv => whnf
    refine ⟨rfl, cmp_split (fun h2 => ?_) (fun h2 => ?_)⟩
    · conv => whnf
      exact ⟨.inl rfl, rfl⟩
    · conv => whnf
      have hno : namesF f = [f.name] := by
        unfold namesF
        rw [if_pos hR]
        exact names_item (right_one hR).2.1 h2
      have ht := texts_fn (X := envX p) (namesF f) [f.name] (by omega)
      rw [decide_eq_true hno] at ht
      (refine st_call ht ?_ rfl rfl ?_; (focus ((repeat' (first | exact trivial | exact rfl | exact Or.inl rfl | exact Or.inr ⟨rfl, rfl⟩ | refine And.intro ?_ ?_)); done)); conv => whnf)
      exact ⟨.inl rfl, rfl⟩
set_option maxHeartbeats 8000000 in
theorem sets_fn (x y : Flt) (all : Bool) : Fn Tryz.prog (envX p) 6 [.v (.agg (cG x)), .v (.agg (cG y)), .v (.bool all)] (.v (.bool true)) := by
  have hm := Cut_mid x
  have hN := Cut_cnt 1 x
  have hN2 := Cut_cnt 2 x
  have hcx := CutF_fn (X := envX p) x
  generalize CutF x = f at *
  have hm' := Cut_mid y
  have hN' := Cut_cnt 1 y
  have hN2' := Cut_cnt 2 y
  have hcy := CutF_fn (X := envX p) y
  generalize CutF y = g at *
  have hp := print_fn p f hm (by omega)
  have hp' := print_fn p g hm' (by omega)
  unfold prR at hp hp'
  have hnm := names_fn p f hm (by omega)
  have hnm' := names_fn p g hm' (by omega)
  have hmz : ∀ k : Int, midF (.mk k (bt' []) (bt' []) [] (bt' []) [f, g]) := fun k => ⟨by decide, by decide, by decide, by decide, by show 2 ≤ 100000000; decide, hm, hm', trivial⟩
  have hNz : ∀ k : Int, (preF 1 (.mk k (bt' []) (bt' []) [] (bt' []) [f, g])).length ≤ 900000000 := fun k => by
    rw [preF, preFs, preFs, preFs, List.append_nil, List.length_cons, List.length_append, show (1 + 1 : Nat) = 2 from rfl]; omega
  have hq := fun k => print_fn p _ (hmz k) (hNz k)
  have hnq := fun k => names_fn p _ (hmz k) (hNz k)
  have e : ∀ k : Int, cG (.mk k (bt' []) (bt' []) [] (bt' []) [f, g]) = [.int .i64 k, .str (bt' []), .str (bt' []), .sl [], .str (bt' []), .sl [cG f, cG g]] := fun k => by rw [← cG_eq f, ← cG_eq g]; rfl
  simp only [e] at hq hnq
  unfold prR at hq
  refine fn_prog tabOk mixed Tryz.f6 Tryz.func6 (by kernel_rfl) (by kernel_rfl) ?_
  conv => whnf
  (refine st_call (shown_fn p) ?_ rfl rfl ?_; (focus ((repeat' (first | exact trivial | exact rfl | exact Or.inl rfl | exact Or.inr ⟨rfl, rfl⟩ | refine And.intro ?_ ?_)); done)); conv => whnf)
  (refine st_call hcx ?_ rfl rfl ?_; (focus ((repeat' (first | exact trivial | exact rfl | exact Or.inl rfl | exact Or.inr ⟨rfl, rfl⟩ | refine And.intro ?_ ?_)); done)); conv => whnf)
  (refine st_call hcy ?_ rfl rfl ?_; (focus ((repeat' (first | exact trivial | exact rfl | exact Or.inl rfl | exact Or.inr ⟨rfl, rfl⟩ | refine And.intro ?_ ?_)); done)); conv => whnf)
  cases all
  · conv => whnf
    have hq := hq 1
    have hnq := hnq 1
    cases hR : rightF 1 (.mk 1 (bt' []) (bt' []) [] (bt' []) [f, g])
    · rw [hR, if_neg (by decide)] at hq
      have hn0 : namesF (.mk 1 (bt' []) (bt' []) [] (bt' []) [f, g]) = [] := by unfold namesF; rw [hR, if_neg (by decide)]
      rw [hn0] at hnq
      by_cases hf : rightF 1 f = true <;> by_cases hg : rightF 1 g = true
      all_goals
        simp only [hf, hg, if_true, if_false, Bool.false_eq_true] at hp hp'
        (refine st_call hp ?_ rfl rfl ?_; (focus ((repeat' (first | exact trivial | exact rfl | exact Or.inl rfl | exact Or.inr ⟨rfl, rfl⟩ | refine And.intro ?_ ?_)); done)); conv => whnf)
        (refine st_call hp' ?_ rfl rfl ?_; (focus ((repeat' (first | exact trivial | exact rfl | exact Or.inl rfl | exact Or.inr ⟨rfl, rfl⟩ | refine And.intro ?_ ?_)); done)); conv => whnf)
        (refine st_call hq ?_ rfl rfl ?_; (focus ((repeat' (first | exact trivial | exact rfl | exact Or.inl rfl | exact Or.inr ⟨rfl, rfl⟩ | refine And.intro ?_ ?_)); done)); conv => whnf)
        refine ⟨rfl, cmp_true (by decide) ?_⟩
        conv => whnf
        refine cmp_true rfl ?_
        conv => whnf
        (refine st_call hnq ?_ rfl rfl ?_; (focus ((repeat' (first | exact trivial | exact rfl | exact Or.inl rfl | exact Or.inr ⟨rfl, rfl⟩ | refine And.intro ?_ ?_)); done)); conv => whnf)
        refine ⟨rfl, cmp_true rfl ?_⟩
        conv => whnf
        exact ⟨.inl rfl, rfl⟩
    · obtain ⟨hf, hg⟩ := sets_right hR
      rw [hR, if_pos rfl, sets_text 1 124 (by decide)] at hq
      rw [hf, if_pos rfl] at hp
      rw [hg, if_pos rfl] at hp'
      have hl1 := pr_bound (Nat.le_refl 1) hf
      have hl2 := pr_bound (Nat.le_refl 1) hg
      have hn1 := names_len f
      have hn2 := names_len g
      have hnn : namesF (.mk 1 (bt' []) (bt' []) [] (bt' []) [f, g]) = namesF f ++ namesF g := by
        unfold namesF
        rw [if_pos hR, if_pos hf, if_pos hg, sets_names]
      rw [hnn] at hnq
      have ht := texts_fn (X := envX p) (namesF f ++ namesF g) (namesF f ++ namesF g) (by rw [List.length_append]; omega)
      rw [decide_eq_true rfl] at ht
      (refine st_call hp ?_ rfl rfl ?_; (focus ((repeat' (first | exact trivial | exact rfl | exact Or.inl rfl | exact Or.inr ⟨rfl, rfl⟩ | refine And.intro ?_ ?_)); done)); conv => whnf)
      (refine st_call hp' ?_ rfl rfl ?_; (focus ((repeat' (first | exact trivial | exact rfl | exact Or.inl rfl | exact Or.inr ⟨rfl, rfl⟩ | refine And.intro ?_ ?_)); done)); conv => whnf)
      (refine st_call hq ?_ rfl rfl ?_; (focus ((repeat' (first | exact trivial | exact rfl | exact Or.inl rfl | exact Or.inr ⟨rfl, rfl⟩ | refine And.intro ?_ ?_)); done)); conv => whnf)
      refine ⟨rfl, cmp_false (by decide) ?_⟩
      conv => whnf
      refine ⟨some [0, 1, 4, 2, 3, 5, 6, 7], by kernel_rfl, ?_⟩; conv => whnf
      (refine st_call hnm ?_ rfl rfl ?_; (focus ((repeat' (first | exact trivial | exact rfl | exact Or.inl rfl | exact Or.inr ⟨rfl, rfl⟩ | refine And.intro ?_ ?_)); done)); conv => whnf)
      have hsl : ∀ (l : List ByteArray), ∀ c ∈ l.map encS, c.length = 1 := fun l c hc => by obtain ⟨z, _, rfl⟩ := List.mem_map.1 hc; rfl
      refine ⟨by simp; omega, hsl _, ?_⟩
      conv => whnf
      (refine st_call hnm' ?_ rfl rfl ?_; (focus ((repeat' (first | exact trivial | exact rfl | exact Or.inl rfl | exact Or.inr ⟨rfl, rfl⟩ | refine And.intro ?_ ?_)); done)); conv => whnf)
      refine st_app (xs := (namesF f).map encS) (ys := (namesF g).map encS) (by simp; omega) (hsl _) (zs := (namesF f ++ namesF g).map encS) (by rw [List.map_append]) ?_
      conv => whnf
      refine ⟨rfl, cmp_true rfl ?_⟩
      conv => whnf
      refine ⟨rfl, cmp_true rfl ?_⟩
      conv => whnf
      refine st_catb [40] [124] (by decide) ?_
      conv => whnf
      refine st_catb [40, 124] (prF f) (by simp only [List.length_cons, List.length_nil]; omega) ?_
      conv => whnf
      refine st_catb (40 :: 124 :: prF f) (prF g) (by simp only [List.length_cons, List.length_nil]; omega) ?_
      conv => whnf
      refine st_catb (40 :: 124 :: prF f ++ prF g) [41] (by simp only [List.length_append, List.length_cons, List.length_nil]; omega) ?_
      conv => whnf
      refine cmp_true rfl ?_
      conv => whnf
      (refine st_call hnq ?_ rfl rfl ?_; (focus ((repeat' (first | exact trivial | exact rfl | exact Or.inl rfl | exact Or.inr ⟨rfl, rfl⟩ | refine And.intro ?_ ?_)); done)); conv => whnf)
      (refine st_call ht ?_ rfl rfl ?_; (focus ((repeat' (first | exact trivial | exact rfl | exact Or.inl rfl | exact Or.inr ⟨rfl, rfl⟩ | refine And.intro ?_ ?_)); done)); conv => whnf)
      exact ⟨.inl rfl, rfl⟩
  · conv => whnf
    have hq := hq 0
    have hnq := hnq 0
    cases hR : rightF 1 (.mk 0 (bt' []) (bt' []) [] (bt' []) [f, g])
    · rw [hR, if_neg (by decide)] at hq
      have hn0 : namesF (.mk 0 (bt' []) (bt' []) [] (bt' []) [f, g]) = [] := by unfold namesF; rw [hR, if_neg (by decide)]
      rw [hn0] at hnq
      by_cases hf : rightF 1 f = true <;> by_cases hg : rightF 1 g = true
      all_goals
        simp only [hf, hg, if_true, if_false, Bool.false_eq_true] at hp hp'
        (refine st_call hp ?_ rfl rfl ?_; (focus ((repeat' (first | exact trivial | exact rfl | exact Or.inl rfl | exact Or.inr ⟨rfl, rfl⟩ | refine And.intro ?_ ?_)); done)); conv => whnf)
        (refine st_call hp' ?_ rfl rfl ?_; (focus ((repeat' (first | exact trivial | exact rfl | exact Or.inl rfl | exact Or.inr ⟨rfl, rfl⟩ | refine And.intro ?_ ?_)); done)); conv => whnf)
        (refine st_call hq ?_ rfl rfl ?_; (focus ((repeat' (first | exact trivial | exact rfl | exact Or.inl rfl | exact Or.inr ⟨rfl, rfl⟩ | refine And.intro ?_ ?_)); done)); conv => whnf)
        refine ⟨rfl, cmp_true (by decide) ?_⟩
        conv => whnf
        refine cmp_true rfl ?_
        conv => whnf
        (refine st_call hnq ?_ rfl rfl ?_; (focus ((repeat' (first | exact trivial | exact rfl | exact Or.inl rfl | exact Or.inr ⟨rfl, rfl⟩ | refine And.intro ?_ ?_)); done)); conv => whnf)
        refine ⟨rfl, cmp_true rfl ?_⟩
        conv => whnf
        exact ⟨.inl rfl, rfl⟩
    · obtain ⟨hf, hg⟩ := sets_right hR
      rw [hR, if_pos rfl, sets_text 0 38 (by decide)] at hq
      rw [hf, if_pos rfl] at hp
      rw [hg, if_pos rfl] at hp'
      have hl1 := pr_bound (Nat.le_refl 1) hf
      have hl2 := pr_bound (Nat.le_refl 1) hg
      have hn1 := names_len f
      have hn2 := names_len g
      have hnn : namesF (.mk 0 (bt' []) (bt' []) [] (bt' []) [f, g]) = namesF f ++ namesF g := by
        unfold namesF
        rw [if_pos hR, if_pos hf, if_pos hg, sets_names]
      rw [hnn] at hnq
      have ht := texts_fn (X := envX p) (namesF f ++ namesF g) (namesF f ++ namesF g) (by rw [List.length_append]; omega)
      rw [decide_eq_true rfl] at ht
      (refine st_call hp ?_ rfl rfl ?_; (focus ((repeat' (first | exact trivial | exact rfl | exact Or.inl rfl | exact Or.inr ⟨rfl, rfl⟩ | refine And.intro ?_ ?_)); done)); conv => whnf)
      (refine st_call hp' ?_ rfl rfl ?_; (focus ((repeat' (first | exact trivial | exact rfl | exact Or.inl rfl | exact Or.inr ⟨rfl, rfl⟩ | refine And.intro ?_ ?_)); done)); conv => whnf)
      (refine st_call hq ?_ rfl rfl ?_; (focus ((repeat' (first | exact trivial | exact rfl | exact Or.inl rfl | exact Or.inr ⟨rfl, rfl⟩ | refine And.intro ?_ ?_)); done)); conv => whnf)
      refine ⟨rfl, cmp_false (by decide) ?_⟩
      conv => whnf
      refine ⟨some [0, 1, 4, 2, 3, 5, 6, 7], by kernel_rfl, ?_⟩; conv => whnf
      (refine st_call hnm ?_ rfl rfl ?_; (focus ((repeat' (first | exact trivial | exact rfl | exact Or.inl rfl | exact Or.inr ⟨rfl, rfl⟩ | refine And.intro ?_ ?_)); done)); conv => whnf)
      have hsl : ∀ (l : List ByteArray), ∀ c ∈ l.map encS, c.length = 1 := fun l c hc => by obtain ⟨z, _, rfl⟩ := List.mem_map.1 hc; rfl
      refine ⟨by simp; omega, hsl _, ?_⟩
      conv => whnf
      (refine st_call hnm' ?_ rfl rfl ?_; (focus ((repeat' (first | exact trivial | exact rfl | exact Or.inl rfl | exact Or.inr ⟨rfl, rfl⟩ | refine And.intro ?_ ?_)); done)); conv => whnf)
      refine st_app (xs := (namesF f).map encS) (ys := (namesF g).map encS) (by simp; omega) (hsl _) (zs := (namesF f ++ namesF g).map encS) (by rw [List.map_append]) ?_
      conv => whnf
      refine ⟨rfl, cmp_true rfl ?_⟩
      conv => whnf
      refine ⟨rfl, cmp_true rfl ?_⟩
      conv => whnf
      refine st_catb [40] [38] (by decide) ?_
      conv => whnf
      refine st_catb [40, 38] (prF f) (by simp only [List.length_cons, List.length_nil]; omega) ?_
      conv => whnf
      refine st_catb (40 :: 38 :: prF f) (prF g) (by simp only [List.length_cons, List.length_nil]; omega) ?_
      conv => whnf
      refine st_catb (40 :: 38 :: prF f ++ prF g) [41] (by simp only [List.length_append, List.length_cons, List.length_nil]; omega) ?_
      conv => whnf
      refine cmp_true rfl ?_
      conv => whnf
      (refine st_call hnq ?_ rfl rfl ?_; (focus ((repeat' (first | exact trivial | exact rfl | exact Or.inl rfl | exact Or.inr ⟨rfl, rfl⟩ | refine And.intro ?_ ?_)); done)); conv => whnf)
      (refine st_call ht ?_ rfl rfl ?_; (focus ((repeat' (first | exact trivial | exact rfl | exact Or.inl rfl | exact Or.inr ⟨rfl, rfl⟩ | refine And.intro ?_ ?_)); done)); conv => whnf)
      exact ⟨.inl rfl, rfl⟩
end Go.Proofs.YtiafggoaedifdaaGreatDoor.Fi
