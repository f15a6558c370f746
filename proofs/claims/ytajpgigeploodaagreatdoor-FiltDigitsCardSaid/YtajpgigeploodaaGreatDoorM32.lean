/- Several texts, one behind the other. filt, walked: right filters printed. filt, walked: right filters printed. filt, walked: Print, Parse. Conditions: texts of at most 10^8 bytes. The statements of latinerlaw08, walked: what they share. -/
import Derived.Test.YtajpgigeploodaaGreatDoorM31
/- filt, walked: right filters printed. -/
namespace Go.Proofs.YtajpgigeploodaaGreatDoor.Fi
open Go.RowKit Go.Shelf Go.Lib Fl
set_option linter.unusedVariables false
/-- how long a right filter's text is, so many deep -/
def lb : Nat → Nat
  | 0 => 0
  | m + 1 => 2000 + 8 * lb m
theorem short_len {s : ByteArray} (h : shortB s = true) : s.size ≤ 60 := of_decide_eq_true h
theorem esc60 {s : ByteArray} (h : s.size ≤ 60) : (escF (bl s)).length ≤ 180 := by
  have := esc_len (bl s)
  rw [size_bl] at this
  omega
theorem flat_len (a : List ByteArray) (h : ∀ s ∈ a, s.size ≤ 60) : (a.flatMap fun s => escF (bl s) ++ [42]).length ≤ 181 * a.length := by
  induction a with
  | nil => exact Nat.le_refl _
  | cons s r ih =>
    rw [List.flatMap_cons, List.length_append, List.length_append, List.length_cons]
    have h1 := esc60 (h s (by simp))
    have h2 := ih fun s hs => h s (by simp [hs])
    simp only [List.length_cons, List.length_nil]
    omega
/-- what a right filter's texts are -/
theorem one_short {k : Int} {n v : ByteArray} {a : List ByteArray} {f : ByteArray} {l : List Flt} (h : oneB (.mk k n v a f l) = true) : n.size ≤ 30 ∧ v.size ≤ 60 ∧ f.size ≤ 60 ∧ (∀ s ∈ a, s.size ≤ 60) ∧ a.length ≤ 4 ∧ l.length ≤ 8 ∧ 0 ≤ k ∧ k ≤ 8 := by
  have hnm : nameB (bl n) = true → n.size ≤ 30 := fun h => by
    unfold nameB at h
    rw [Bool.and_eq_true, size_bl] at h
    exact of_decide_eq_true h.1
  unfold oneB at h
  dsimp only at h
  unfold namedB bareB at h
  split at h
  · simp only [Bool.and_eq_true, decide_eq_true_eq, List.isEmpty_iff] at h
    obtain ⟨h1, ⟨h2, h3, h4⟩, h5, h6, _⟩ := h
    subst h3
    refine ⟨by omega, by omega, by omega, by simp, by simp, h6, by omega, by omega⟩
  split at h
  · simp only [Bool.and_eq_true, decide_eq_true_eq, List.isEmpty_iff] at h
    obtain ⟨⟨h1, h2, h3, h4, h5⟩, h6, h7, h8⟩ := h
    subst h2 h7
    refine ⟨hnm h1, by omega, by omega, by simp, by simp, by simp, by omega, by omega⟩
  split at h
  · simp only [Bool.and_eq_true, decide_eq_true_eq, List.isEmpty_iff, List.all_eq_true] at h
    obtain ⟨⟨h1, h2, h3, h4, h5⟩, h6, h7, h8⟩ := h
    subst h2
    refine ⟨hnm h1, short_len h3, short_len h4, fun s hs => short_len (h5 s hs), h7, by simp, by omega, by omega⟩
  split at h
  · simp only [Bool.and_eq_true, decide_eq_true_eq, List.isEmpty_iff] at h
    obtain ⟨⟨h1, h2, h3, h4, h5⟩, h6, h7⟩ := h
    subst h2 h6
    refine ⟨hnm h1, short_len h3, by omega, by simp, by simp, by simp, by omega, by omega⟩
  · cases h
theorem mid_len {k : Int} {v : ByteArray} {a : List ByteArray} {f : ByteArray} (hv : v.size ≤ 60) (hf : f.size ≤ 60) (ha : ∀ s ∈ a, s.size ≤ 60) (hl : a.length ≤ 4) : (midB k v a f).length ≤ 1200 := by
  have h1 := esc60 hv
  have h2 := esc60 hf
  have h3 := flat_len (v :: a) (fun s hs => by rcases List.mem_cons.1 hs with rfl | hs; exact hv; exact ha s hs)
  have h4 : (signB k).length ≤ 2 := by
    unfold signB
    repeat (split; · decide)
    decide
  unfold midB
  split
  · simp
  split
  · rw [List.cons_append, List.length_cons, List.length_append]
    rw [List.length_cons] at h3
    omega
  · rw [List.length_append]; omega
mutual
theorem pr_len : ∀ (d m : Nat) (f : Flt), d + m = 7 → rightF d f = true → (prF f).length ≤ lb m
  | d, 0, .mk k n v a f l, hd, h => by
    rw [rightF, Bool.and_eq_true] at h
    have := of_decide_eq_true h.1
    omega
  | d, m + 1, .mk k n v a f l, hd, h => by
    rw [rightF, Bool.and_eq_true, Bool.and_eq_true] at h
    obtain ⟨_, h1, h2⟩ := h
    obtain ⟨g1, g2, g3, g4, g5, g6, _⟩ := one_short h1
    have h3 := prs_len (d + 1) m l (by omega) h2
    have h4 := mid_len (k := k) g2 g3 g4 g5
    have h5 : l.length * lb m ≤ 8 * lb m := Nat.mul_le_mul_right _ g6
    rw [prF, lb]
    simp only [List.length_cons, List.length_append, List.length_nil, size_bl]
    omega
theorem prs_len : ∀ (d m : Nat) (l : List Flt), d + m = 7 → rightFs d l = true → (prFs l).length ≤ l.length * lb m
  | _, _, [], _, _ => Nat.zero_le _
  | d, m, x :: r, hd, h => by
    rw [rightFs, Bool.and_eq_true] at h
    have h1 := pr_len d m x hd h.1
    have h2 := prs_len d m r hd h.2
    rw [prFs, List.length_append, List.length_cons, Nat.succ_mul]
    omega
end
theorem pr_bound {d : Nat} {f : Flt} (hd : 1 ≤ d) (h : rightF d f = true) : (prF f).length ≤ 100000000 := by
  have hd6 : d ≤ 6 := (right_one h).1
  have hm : ∀ a b : Nat, a ≤ b → lb a ≤ lb b := by
    have hs : ∀ a : Nat, lb a ≤ lb (a + 1) := by
      intro a
      induction a with
      | zero => exact Nat.zero_le _
      | succ a ih => rw [lb, lb]; omega
    intro a b hab
    induction hab with
    | refl => exact Nat.le_refl _
    | step _ ih => exact Nat.le_trans ih (hs _)
  have h1 := pr_len d (7 - d) f (by omega) h
  have h2 := hm (7 - d) 6 (by omega)
  have h3 : lb 6 ≤ 100000000 := by decide
  omega
theorem pre_len {l r x : List UInt8} (h : l ++ r = x) (hx : x.length ≤ 100000000) : l.length ≤ 1000000000 := by
  have := congrArg List.length h
  rw [List.length_append] at this
  omega
theorem cat_bt (a b : List UInt8) : bt' a ++ bt' b = bt' (a ++ b) := by
  apply ByteArray.ext
  apply Array.toList_inj.1
  show (bt' a ++ bt' b).data.toList = (a ++ b).toArray.toList
  simp [bt']
theorem prFs_take (l : List Flt) (i : Nat) (h : i < l.length) : prFs (l.take (i + 1)) = prFs (l.take i) ++ prF l[i] := by
  have happ : ∀ a b : List Flt, prFs (a ++ b) = prFs a ++ prFs b := by
    intro a
    induction a with
    | nil => intro b; rfl
    | cons x r ih => intro b; rw [List.cons_append, prFs, prFs, ih, List.append_assoc]
  rw [List.take_succ_eq_append_getElem h, happ]
  show _ ++ (prF l[i] ++ []) = _
  rw [List.append_nil]
theorem prFs_split (l : List Flt) (i : Nat) : prFs (l.take i) ++ prFs (l.drop i) = prFs l := by
  have happ : ∀ a b : List Flt, prFs (a ++ b) = prFs a ++ prFs b := by
    intro a
    induction a with
    | nil => intro b; rfl
    | cons x r ih => intro b; rw [List.cons_append, prFs, prFs, ih, List.append_assoc]
  rw [← happ, List.take_append_drop]
end Go.Proofs.YtajpgigeploodaaGreatDoor.Fi
/- filt, walked: right filters printed. -/
namespace Go.Proofs.YtajpgigeploodaaGreatDoor.Fi
open Go.RowKit Go.Shelf Go.Lib Fl
set_option linter.unusedVariables false
variable {X : En}
set_option maxHeartbeats 8000000 in
theorem printed_a (k : Int) (n v : ByteArray) (a : List ByteArray) (fi : ByteArray) (l : List Flt) (hb : (prF (.mk k n v a fi l)).length ≤ 100000000) (g1 : n.size ≤ 30) (g2 : v.size ≤ 60) (g3 : fi.size ≤ 60) (g4 : ∀ s ∈ a, s.size ≤ 60) (g5 : a.length ≤ 4) (g6 : l.length ≤ 8) (hk : k = 7) (hkids : ∀ x ∈ l, Fn Tryz.prog X 31 [.v (.agg (cG x))] (.v (.str (bt' (prF x))))) : Fn Tryz.prog X 31 [.v (.agg (cG (.mk k n v a fi l)))] (.v (.str (bt' (prF (.mk k n v a fi l))))) := by
  have hone : ({ data := #[40] } : ByteArray).size = 1 := rfl
  subst hk
  refine fnB_prog (d := 3) tabOk mixed Bld.bldOk Tryz.f31 Tryz.func31 (by kernel_rfl) rfl rfl rfl rfl (by kernel_rfl) (by kernel_rfl) ?_
  conv => whnf
  refine ⟨rfl, fun B => ?_⟩
  conv => whnf
  refine st_cat (by show 1 + n.size ≤ 9223372036854775807; omega) (z := bt' (40 :: bl n)) (cat_bt [40] (bl n)) ?_
  conv => whnf
  refine .inl ⟨rfl, _, _, _, 40 :: bl n, rfl, rfl, rfl, by rw [List.nil_append]; exact bl_of _, by simp, pre_len (r := midB 7 v a fi ++ prFs l ++ [41]) (by rw [prF]; try simp) hb, ?_⟩
  conv => whnf
  have hmid : midB 7 v a fi = [61, 42] := by unfold midB; rw [if_pos rfl]
  refine ⟨rfl, cmp_true rfl ?_⟩
  conv => whnf
  refine .inl ⟨rfl, _, _, _, 40 :: bl n ++ [61, 42], rfl, rfl, rfl, ?_, by simp, pre_len (r := prFs l ++ [41]) ?_ hb, ?_⟩
  · rfl
  · rw [prF, hmid]; simp
  conv => whnf
  refine ⟨Nat, fun i => ⟨62, [(1, .ptr 1 0), (3, .v (.raw (.pointer (some ⟨B, 0, none⟩)))), (50, .v (.sl (l.map cF))), (51, .v (.int .i64 ((l.map cF).length : Nat))), (52, .v (.int .i64 (i : Nat)))], [(1, (cG (.mk 7 n v a fi l)).map .v)], []⟩, fun i => some (40 :: bl n ++ midB 7 v a fi ++ prFs (l.take i)), fun i => i ≤ l.length, fun i => l.length - i, ⟨0, [], Nat.zero_le _, ?_, ?_⟩, fun i hi => ?_⟩
  · show some (40 :: bl n ++ midB 7 v a fi ++ prFs (l.take 0)) = _
    rw [List.take_zero]
    show some (40 :: bl n ++ midB 7 v a fi ++ []) = _
    rw [List.append_nil]; rw [hmid]
  · (focus ((repeat' (first | exact trivial | exact rfl | exact Or.inl rfl | exact Or.inr ⟨rfl, rfl⟩ | refine And.intro ?_ ?_)); done))
  conv => whnf
  refine ⟨rfl, cmp_split (fun h => ?_) (fun h => ?_)⟩
  · rw [List.length_map] at h
    have hil : i < l.length := by omega
    conv => whnf
    refine st_idxF hil ?_
    conv => whnf
    (refine st_call (hkids l[i] (List.getElem_mem hil)) ?_ rfl rfl ?_; (focus ((repeat' (first | exact trivial | exact rfl | exact Or.inl rfl | exact Or.inr ⟨rfl, rfl⟩ | refine And.intro ?_ ?_)); done)); conv => whnf)
    refine .inl ⟨rfl, _, _, _, 40 :: bl n ++ midB 7 v a fi ++ prFs (l.take (i + 1)), rfl, rfl, rfl, ?_, by simp, pre_len (r := prFs (l.drop (i + 1)) ++ [41]) ?_ hb, ?_⟩
    · rw [prFs_take l i hil, ← List.append_assoc]; congr 1
    · rw [prF, List.append_assoc (40 :: bl n ++ midB 7 v a fi), ← List.append_assoc (prFs (l.take (i + 1))), prFs_split]; simp
    conv => whnf
    refine ⟨rfl, st_succ (by omega) ?_⟩
    conv => whnf
    refine ⟨i + 1, [], by dsimp only; omega, rfl, by dsimp only; omega, ?_⟩
    (focus ((repeat' (first | exact trivial | exact rfl | exact Or.inl rfl | exact Or.inr ⟨rfl, rfl⟩ | refine And.intro ?_ ?_)); done))
  · rw [List.length_map] at h
    have hie : i = l.length := by omega
    subst hie
    conv => whnf
    rw [List.take_length]
    refine .inr ⟨rfl, _, rfl, rfl, ?_⟩
    conv => whnf
    refine st_cat ?_ (z := bt' (prF (.mk 7 n v a fi l))) ?_ ?_
    · have h1 := pre_len (l := 40 :: bl n ++ midB 7 v a fi ++ prFs l) (r := [41]) (by rw [prF]; try simp) hb
      have h2 : (⟨(40 :: bl n ++ midB 7 v a fi ++ prFs l).toArray⟩ : ByteArray).size = (40 :: bl n ++ midB 7 v a fi ++ prFs l).length := (size_bl _).symm.trans (congrArg List.length (bl_of _))
      rw [h2]
      have h3 : ({ data := #[41] } : ByteArray).size = 1 := rfl
      omega
    · have := cat_bt (40 :: bl n ++ midB 7 v a fi ++ prFs l) [41]
      rw [prF]
      refine this.trans (congrArg bt' ?_)
      simp
    conv => whnf
    exact ⟨.inl rfl, rfl⟩
set_option maxHeartbeats 8000000 in
theorem printed_b (k : Int) (n v : ByteArray) (a : List ByteArray) (fi : ByteArray) (l : List Flt) (hb : (prF (.mk k n v a fi l)).length ≤ 100000000) (g1 : n.size ≤ 30) (g2 : v.size ≤ 60) (g3 : fi.size ≤ 60) (g4 : ∀ s ∈ a, s.size ≤ 60) (g5 : a.length ≤ 4) (g6 : l.length ≤ 8) (hk : k = 4) (hkids : ∀ x ∈ l, Fn Tryz.prog X 31 [.v (.agg (cG x))] (.v (.str (bt' (prF x))))) : Fn Tryz.prog X 31 [.v (.agg (cG (.mk k n v a fi l)))] (.v (.str (bt' (prF (.mk k n v a fi l))))) := by
  have hone : ({ data := #[40] } : ByteArray).size = 1 := rfl
  subst hk
  refine fnB_prog (d := 3) tabOk mixed Bld.bldOk Tryz.f31 Tryz.func31 (by kernel_rfl) rfl rfl rfl rfl (by kernel_rfl) (by kernel_rfl) ?_
  conv => whnf
  refine ⟨rfl, fun B => ?_⟩
  conv => whnf
  refine st_cat (by show 1 + n.size ≤ 9223372036854775807; omega) (z := bt' (40 :: bl n)) (cat_bt [40] (bl n)) ?_
  conv => whnf
  refine .inl ⟨rfl, _, _, _, 40 :: bl n, rfl, rfl, rfl, by rw [List.nil_append]; exact bl_of _, by simp, pre_len (r := midB 4 v a fi ++ prFs l ++ [41]) (by rw [prF]; try simp) hb, ?_⟩
  conv => whnf
  have hmid : midB 4 v a fi = 61 :: ((v :: a).flatMap fun s => escF (bl s) ++ [42]) ++ escF (bl fi) := by unfold midB; rw [if_neg (by decide), if_pos rfl]
  refine ⟨rfl, cmp_false (show ¬ (4 : Int) = 7 by decide) ?_⟩
  conv => whnf
  refine ⟨rfl, cmp_true rfl ?_⟩
  conv => whnf
  refine .inl ⟨rfl, _, _, _, 40 :: bl n ++ [61], rfl, rfl, rfl, ?_, by simp, pre_len (r := ((v :: a).flatMap fun s => escF (bl s) ++ [42]) ++ escF (bl fi) ++ prFs l ++ [41]) ?_ hb, ?_⟩
  · rfl
  · rw [prF, hmid]; simp
  conv => whnf
  refine st_app (xs := [[V.str v]]) (by show 1 + (a.map encS).length ≤ 1000000000; rw [List.length_map]; omega) (fun c hc => by obtain ⟨z, _, rfl⟩ := List.mem_map.1 hc; rfl) (zs := (v :: a).map encS) rfl ?_
  conv => whnf
  refine ⟨Nat, fun i => ⟨62, [(1, .ptr 1 0), (3, .v (.raw (.pointer (some ⟨B, 0, none⟩)))), (34, .v (.sl ((v :: a).map encS))), (35, .v (.int .i64 (((v :: a).map encS).length : Nat))), (36, .v (.int .i64 (i : Nat)))], [(1, (cG (.mk 4 n v a fi l)).map .v)], []⟩, fun i => some (40 :: bl n ++ 61 :: ((v :: a).take i).flatMap fun s => escF (bl s) ++ [42]), fun i => i ≤ (v :: a).length, fun i => (v :: a).length - i, ⟨0, [], Nat.zero_le _, rfl, ?_⟩, fun i hi => ?_⟩
  · (focus ((repeat' (first | exact trivial | exact rfl | exact Or.inl rfl | exact Or.inr ⟨rfl, rfl⟩ | refine And.intro ?_ ?_)); done))
  conv => whnf
  refine ⟨rfl, cmp_split (fun h => ?_) (fun h => ?_)⟩
  · rw [List.length_map] at h
    have hil : i < (v :: a).length := by omega
    have hil5 : i < a.length + 1 := by simpa using hil
    conv => whnf
    refine st_idx hil rfl ?_
    have hz : ((v :: a)[i]).size ≤ 60 := by
      rcases List.mem_cons.1 (List.getElem_mem hil) with e | e
      · rw [e]; exact g2
      · exact g4 _ e
    have hts : ((v :: a).take (i + 1)).flatMap (fun s => escF (bl s) ++ [42]) = ((v :: a).take i).flatMap (fun s => escF (bl s) ++ [42]) ++ (escF (bl (v :: a)[i]) ++ [42]) := by
      rw [List.take_succ_eq_append_getElem hil, List.flatMap_append]; simp
    have hsp : ((v :: a).take (i + 1)).flatMap (fun s => escF (bl s) ++ [42]) ++ ((v :: a).drop (i + 1)).flatMap (fun s => escF (bl s) ++ [42]) = (v :: a).flatMap (fun s => escF (bl s) ++ [42]) := by
      rw [← List.flatMap_append, List.take_append_drop]
    generalize (v :: a)[i] = z at *
    conv => whnf
    (refine st_call (escFilter_fn (X := X) z (by omega)) ?_ rfl rfl ?_; (focus ((repeat' (first | exact trivial | exact rfl | exact Or.inl rfl | exact Or.inr ⟨rfl, rfl⟩ | refine And.intro ?_ ?_)); done)); conv => whnf)
    refine st_cat (by have := esc60 hz; rw [← size_bl, bl_of]; show _ + 1 ≤ _; omega) (z := bt' (escF (bl z) ++ [42])) (cat_bt _ [42]) ?_
    conv => whnf
    refine .inl ⟨rfl, _, _, _, 40 :: bl n ++ 61 :: ((v :: a).take (i + 1)).flatMap fun s => escF (bl s) ++ [42], rfl, rfl, rfl, ?_, by simp, pre_len (r := ((v :: a).drop (i + 1)).flatMap (fun s => escF (bl s) ++ [42]) ++ escF (bl fi) ++ prFs l ++ [41]) ?_ hb, ?_⟩
    · rw [hts]
      show (40 :: bl n ++ 61 :: ((v :: a).take i).flatMap fun s => escF (bl s) ++ [42]) ++ bl (bt' (escF (bl z) ++ [42])) = _
      rw [bl_of]; simp
    · rw [prF, hmid, ← hsp]; simp
    conv => whnf
    refine ⟨rfl, st_succ (by omega) ?_⟩
    conv => whnf
    refine ⟨i + 1, [], by dsimp only; omega, rfl, by dsimp only; omega, ?_⟩
    (focus ((repeat' (first | exact trivial | exact rfl | exact Or.inl rfl | exact Or.inr ⟨rfl, rfl⟩ | refine And.intro ?_ ?_)); done))
  rw [List.length_map] at h
  have hie : i = (v :: a).length := by omega
  subst hie
  conv => whnf
  (refine st_call (escFilter_fn (X := X) fi (by omega)) ?_ rfl rfl ?_; (focus ((repeat' (first | exact trivial | exact rfl | exact Or.inl rfl | exact Or.inr ⟨rfl, rfl⟩ | refine And.intro ?_ ?_)); done)); conv => whnf)
  refine .inl ⟨rfl, _, _, _, 40 :: bl n ++ midB 4 v a fi, rfl, rfl, rfl, ?_, by simp, pre_len (r := prFs l ++ [41]) ?_ hb, ?_⟩
  · rw [hmid]
    show (40 :: bl n ++ 61 :: ((v :: a).take (v :: a).length).flatMap fun s => escF (bl s) ++ [42]) ++ bl (bt' (escF (bl fi))) = _
    rw [bl_of, List.take_length]; simp
  · rw [prF]; try simp
  conv => whnf
  refine ⟨Nat, fun i => ⟨62, [(1, .ptr 1 0), (3, .v (.raw (.pointer (some ⟨B, 0, none⟩)))), (50, .v (.sl (l.map cF))), (51, .v (.int .i64 ((l.map cF).length : Nat))), (52, .v (.int .i64 (i : Nat)))], [(1, (cG (.mk 4 n v a fi l)).map .v)], []⟩, fun i => some (40 :: bl n ++ midB 4 v a fi ++ prFs (l.take i)), fun i => i ≤ l.length, fun i => l.length - i, ⟨0, [], Nat.zero_le _, ?_, ?_⟩, fun i hi => ?_⟩
  · show some (40 :: bl n ++ midB 4 v a fi ++ prFs (l.take 0)) = _
    rw [List.take_zero]
    show some (40 :: bl n ++ midB 4 v a fi ++ []) = _
    rw [List.append_nil]
  · (focus ((repeat' (first | exact trivial | exact rfl | exact Or.inl rfl | exact Or.inr ⟨rfl, rfl⟩ | refine And.intro ?_ ?_)); done))
  conv => whnf
  refine ⟨rfl, cmp_split (fun h => ?_) (fun h => ?_)⟩
  · rw [List.length_map] at h
    have hil : i < l.length := by omega
    conv => whnf
    refine st_idxF hil ?_
    conv => whnf
    (refine st_call (hkids l[i] (List.getElem_mem hil)) ?_ rfl rfl ?_; (focus ((repeat' (first | exact trivial | exact rfl | exact Or.inl rfl | exact Or.inr ⟨rfl, rfl⟩ | refine And.intro ?_ ?_)); done)); conv => whnf)
    refine .inl ⟨rfl, _, _, _, 40 :: bl n ++ midB 4 v a fi ++ prFs (l.take (i + 1)), rfl, rfl, rfl, ?_, by simp, pre_len (r := prFs (l.drop (i + 1)) ++ [41]) ?_ hb, ?_⟩
    · rw [prFs_take l i hil, ← List.append_assoc]; congr 1
    · rw [prF, List.append_assoc (40 :: bl n ++ midB 4 v a fi), ← List.append_assoc (prFs (l.take (i + 1))), prFs_split]; simp
    conv => whnf
    refine ⟨rfl, st_succ (by omega) ?_⟩
    conv => whnf
    refine ⟨i + 1, [], by dsimp only; omega, rfl, by dsimp only; omega, ?_⟩
    (focus ((repeat' (first | exact trivial | exact rfl | exact Or.inl rfl | exact Or.inr ⟨rfl, rfl⟩ | refine And.intro ?_ ?_)); done))
  · rw [List.length_map] at h
    have hie : i = l.length := by omega
    subst hie
    conv => whnf
    rw [List.take_length]
    refine .inr ⟨rfl, _, rfl, rfl, ?_⟩
    conv => whnf
    refine st_cat ?_ (z := bt' (prF (.mk 4 n v a fi l))) ?_ ?_
    · have h1 := pre_len (l := 40 :: bl n ++ midB 4 v a fi ++ prFs l) (r := [41]) (by rw [prF]; try simp) hb
      have h2 : (⟨(40 :: bl n ++ midB 4 v a fi ++ prFs l).toArray⟩ : ByteArray).size = (40 :: bl n ++ midB 4 v a fi ++ prFs l).length := (size_bl _).symm.trans (congrArg List.length (bl_of _))
      rw [h2]
      have h3 : ({ data := #[41] } : ByteArray).size = 1 := rfl
      omega
    · have := cat_bt (40 :: bl n ++ midB 4 v a fi ++ prFs l) [41]
      rw [prF]
      refine this.trans (congrArg bt' ?_)
      simp
    conv => whnf
    exact ⟨.inl rfl, rfl⟩
set_option maxHeartbeats 8000000 in
theorem printed_c (k : Int) (n v : ByteArray) (a : List ByteArray) (fi : ByteArray) (l : List Flt) (hb : (prF (.mk k n v a fi l)).length ≤ 100000000) (g1 : n.size ≤ 30) (g2 : v.size ≤ 60) (g3 : fi.size ≤ 60) (g4 : ∀ s ∈ a, s.size ≤ 60) (g5 : a.length ≤ 4) (g6 : l.length ≤ 8) (h7 : ¬ k = 7) (h4 : ¬ k = 4) (hk : k = 0 ∨ k = 1 ∨ k = 2 ∨ k = 3 ∨ k = 5 ∨ k = 6 ∨ k = 8) (hkids : ∀ x ∈ l, Fn Tryz.prog X 31 [.v (.agg (cG x))] (.v (.str (bt' (prF x))))) : Fn Tryz.prog X 31 [.v (.agg (cG (.mk k n v a fi l)))] (.v (.str (bt' (prF (.mk k n v a fi l))))) := by
  have hone : ({ data := #[40] } : ByteArray).size = 1 := rfl
  refine fnB_prog (d := 3) tabOk mixed Bld.bldOk Tryz.f31 Tryz.func31 (by kernel_rfl) rfl rfl rfl rfl (by kernel_rfl) (by kernel_rfl) ?_
  conv => whnf
  refine ⟨rfl, fun B => ?_⟩
  conv => whnf
  refine st_cat (by show 1 + n.size ≤ 9223372036854775807; omega) (z := bt' (40 :: bl n)) (cat_bt [40] (bl n)) ?_
  conv => whnf
  refine .inl ⟨rfl, _, _, _, 40 :: bl n, rfl, rfl, rfl, by rw [List.nil_append]; exact bl_of _, by simp, pre_len (r := midB k v a fi ++ prFs l ++ [41]) (by rw [prF]; try simp) hb, ?_⟩
  conv => whnf
  have hmid : midB k v a fi = signB k ++ escF (bl v) := by unfold midB; rw [if_neg h7, if_neg h4]
  have hget : mget (.int .i64 k) signKs signVs = some (.str (bt' (signB k))) := by rw [sign_get, if_pos hk]
  have hsg : (signB k).length ≤ 2 := by
    unfold signB
    repeat (split; · decide)
    decide
  refine ⟨rfl, cmp_false h7 ?_⟩
  conv => whnf
  refine ⟨rfl, cmp_false h4 ?_⟩
  conv => whnf
  have hcs : (bt' (signB k)).size + (bt' (escF (bl v))).size ≤ 9223372036854775807 := by
    have := esc60 g2
    rw [← size_bl, ← size_bl, bl_of, bl_of]; omega
  (refine ⟨(.one 1 (.one 4 (.or (.or (.one 0 (.or (.one 2 (.or (.one 3 (.one 5 (.one 6 (.one 7 .nil)))) (.one 5 (.or (.one 3 (.one 6 (.one 7 .nil))) (.one 6 (.one 3 (.one 7 .nil))))))) (.one 5 (.or (.one 2 (.or (.one 3 (.one 6 (.one 7 .nil))) (.one 6 (.one 3 (.one 7 .nil))))) (.one 6 (.one 2 (.one 3 (.one 7 .nil)))))))) (.one 2 (.or (.one 0 (.or (.one 3 (.one 5 (.one 6 (.one 7 .nil)))) (.one 5 (.or (.one 3 (.one 6 (.one 7 .nil))) (.one 6 (.one 3 (.one 7 .nil))))))) (.one 5 (.one 0 (.or (.one 3 (.one 6 (.one 7 .nil))) (.one 6 (.one 3 (.one 7 .nil))))))))) (.one 5 (.or (.one 0 (.or (.one 2 (.or (.one 3 (.one 6 (.one 7 .nil))) (.one 6 (.one 3 (.one 7 .nil))))) (.one 6 (.one 2 (.one 3 (.one 7 .nil)))))) (.one 2 (.one 0 (.or (.one 3 (.one 6 (.one 7 .nil))) (.one 6 (.one 3 (.one 7 .nil))))))))))), by kernel_rfl, ?_, ?_, ?_⟩; rotate_left; (focus ((conv => whnf); (repeat' (first | (((with_reducible apply st_call (signs_fn (X := X))); (focus ((repeat' (first | exact trivial | exact rfl | exact Or.inl rfl | exact Or.inr ⟨rfl, rfl⟩ | refine And.intro ?_ ?_)); done)); (focus (exact rfl)); (focus (exact rfl))) <;> (conv => whnf)) | (((with_reducible apply st_call (escFilter_fn (X := X) v (by omega))); (focus ((repeat' (first | exact trivial | exact rfl | exact Or.inl rfl | exact Or.inr ⟨rfl, rfl⟩ | refine And.intro ?_ ?_)); done)); (focus (exact rfl)); (focus (exact rfl))) <;> (conv => whnf)) | ((refine ⟨_, hget, ?_⟩) <;> (conv => whnf)) | ((refine st_cat hcs (z := bt' (signB k ++ escF (bl v))) (cat_bt _ _) ?_) <;> (conv => whnf)) | ((refine And.intro ?_ ?_) <;> (conv => whnf)) | (exact St.le_refl _) | (refine ⟨rfl, ?_, ?_, ?_⟩ <;> (repeat' (first | exact trivial | (refine ⟨rfl, ?_⟩))); done) | fail))))); conv => whnf
  refine .inl ⟨rfl, _, _, _, 40 :: bl n ++ midB k v a fi, rfl, rfl, rfl, ?_, by simp, pre_len (r := prFs l ++ [41]) ?_ hb, ?_⟩
  · rw [hmid]
    show 40 :: bl n ++ bl (bt' (signB k ++ escF (bl v))) = _
    rw [bl_of]
  · rw [prF]; try simp
  conv => whnf
  refine ⟨Nat, fun i => ⟨62, [(1, .ptr 1 0), (3, .v (.raw (.pointer (some ⟨B, 0, none⟩)))), (50, .v (.sl (l.map cF))), (51, .v (.int .i64 ((l.map cF).length : Nat))), (52, .v (.int .i64 (i : Nat)))], [(1, (cG (.mk k n v a fi l)).map .v)], []⟩, fun i => some (40 :: bl n ++ midB k v a fi ++ prFs (l.take i)), fun i => i ≤ l.length, fun i => l.length - i, ⟨0, [], Nat.zero_le _, ?_, ?_⟩, fun i hi => ?_⟩
  · show some (40 :: bl n ++ midB k v a fi ++ prFs (l.take 0)) = _
    rw [List.take_zero]
    show some (40 :: bl n ++ midB k v a fi ++ []) = _
    rw [List.append_nil]
  · (focus ((repeat' (first | exact trivial | exact rfl | exact Or.inl rfl | exact Or.inr ⟨rfl, rfl⟩ | refine And.intro ?_ ?_)); done))
  conv => whnf
  refine ⟨rfl, cmp_split (fun h => ?_) (fun h => ?_)⟩
  · rw [List.length_map] at h
    have hil : i < l.length := by omega
    conv => whnf
    refine st_idxF hil ?_
    conv => whnf
    (refine st_call (hkids l[i] (List.getElem_mem hil)) ?_ rfl rfl ?_; (focus ((repeat' (first | exact trivial | exact rfl | exact Or.inl rfl | exact Or.inr ⟨rfl, rfl⟩ | refine And.intro ?_ ?_)); done)); conv => whnf)
    refine .inl ⟨rfl, _, _, _, 40 :: bl n ++ midB k v a fi ++ prFs (l.take (i + 1)), rfl, rfl, rfl, ?_, by simp, pre_len (r := prFs (l.drop (i + 1)) ++ [41]) ?_ hb, ?_⟩
    · rw [prFs_take l i hil, ← List.append_assoc]; congr 1
    · rw [prF, List.append_assoc (40 :: bl n ++ midB k v a fi), ← List.append_assoc (prFs (l.take (i + 1))), prFs_split]; simp
    conv => whnf
    refine ⟨rfl, st_succ (by omega) ?_⟩
    conv => whnf
    refine ⟨i + 1, [], by dsimp only; omega, rfl, by dsimp only; omega, ?_⟩
    (focus ((repeat' (first | exact trivial | exact rfl | exact Or.inl rfl | exact Or.inr ⟨rfl, rfl⟩ | refine And.intro ?_ ?_)); done))
  · rw [List.length_map] at h
    have hie : i = l.length := by omega
    subst hie
    conv => whnf
    rw [List.take_length]
    refine .inr ⟨rfl, _, rfl, rfl, ?_⟩
    conv => whnf
    refine st_cat ?_ (z := bt' (prF (.mk k n v a fi l))) ?_ ?_
    · have h1 := pre_len (l := 40 :: bl n ++ midB k v a fi ++ prFs l) (r := [41]) (by rw [prF]; try simp) hb
      have h2 : (⟨(40 :: bl n ++ midB k v a fi ++ prFs l).toArray⟩ : ByteArray).size = (40 :: bl n ++ midB k v a fi ++ prFs l).length := (size_bl _).symm.trans (congrArg List.length (bl_of _))
      rw [h2]
      have h3 : ({ data := #[41] } : ByteArray).size = 1 := rfl
      omega
    · have := cat_bt (40 :: bl n ++ midB k v a fi ++ prFs l) [41]
      rw [prF]
      refine this.trans (congrArg bt' ?_)
      simp
    conv => whnf
    exact ⟨.inl rfl, rfl⟩
mutual
theorem printed_fn : ∀ (f : Flt) (d : Nat), 1 ≤ d → rightF d f = true → Fn Tryz.prog X 31 [.v (.agg (cG f))] (.v (.str (bt' (prF f))))
  | .mk k n v a fi l, d, hd, h => by
    have hb := pr_bound hd h
    obtain ⟨_, h1, h2⟩ := right_one h
    obtain ⟨g1, g2, g3, g4, g5, g6, g7, g8⟩ := one_short h1
    have hkids := printed_fns l (d + 1) (by omega) h2
    by_cases h7 : k = 7
    · exact printed_a k n v a fi l hb g1 g2 g3 g4 g5 g6 h7 hkids
    by_cases h4 : k = 4
    · exact printed_b k n v a fi l hb g1 g2 g3 g4 g5 g6 h4 hkids
    exact printed_c k n v a fi l hb g1 g2 g3 g4 g5 g6 h7 h4 (by omega) hkids
theorem printed_fns : ∀ (l : List Flt) (d : Nat), 1 ≤ d → rightFs d l = true → ∀ x ∈ l, Fn Tryz.prog X 31 [.v (.agg (cG x))] (.v (.str (bt' (prF x))))
  | [], _, _, _, x, hx => by cases hx
  | y :: r, d, hd, h, x, hx => by
    rw [rightFs, Bool.and_eq_true] at h
    have h1 := printed_fn y d hd h.1
    have h2 := printed_fns r d hd h.2
    rcases List.mem_cons.1 hx with rfl | hx
    · exact h1
    · exact h2 x hx
end
end Go.Proofs.YtajpgigeploodaaGreatDoor.Fi
/- filt, walked: Print, Parse. Conditions: texts of at most 10^8 bytes. -/
namespace Go.Proofs.YtajpgigeploodaaGreatDoor.Fi
open Go.RowKit Go.Shelf Go.Lib Fl
set_option linter.unusedVariables false
variable (p : Nat → Addr)
def prR (f : Flt) : T := if rightF 1 f = true then .tup [.v (.str (bt' (prF f))), .v (.int .i64 0)] else .tup [.v (.str (bt' [])), .v (.int .i64 80)]
theorem print_fn (f : Flt) (hf : midF f) (hN : (preF 1 f).length ≤ 500000000) : Fn Tryz.prog (envX p) 14 [.v (.agg (cG f))] (prR f) := by
  refine fn_prog tabOk mixed Tryz.f14 Tryz.func14 (by kernel_rfl) (by kernel_rfl) ?_
  conv => whnf
  refine st_callB (right_fn p f hf hN) ⟨.inl rfl, trivial⟩ rfl (fun hR => ?_) (fun hR => ?_)
  · conv => whnf
    (refine st_call (printed_fn (X := envX p) f 1 (Nat.le_refl _) hR) ?_ rfl rfl ?_; (focus ((repeat' (first | exact trivial | exact rfl | exact Or.inl rfl | exact Or.inr ⟨rfl, rfl⟩ | refine And.intro ?_ ?_)); done)); conv => whnf)
    unfold prR
    rw [if_pos hR]
    exact ⟨⟨.inl rfl, .inl rfl, trivial⟩, rfl⟩
  · conv => whnf
    (refine st_call (told_wrong_fn p 0) ?_ rfl rfl ?_; (focus ((repeat' (first | exact trivial | exact rfl | exact Or.inl rfl | exact Or.inr ⟨rfl, rfl⟩ | refine And.intro ?_ ?_)); done)); conv => whnf)
    unfold prR
    rw [if_neg (by rw [hR]; decide)]
    exact ⟨⟨.inl rfl, .inl rfl, trivial⟩, rfl⟩
/-! ### how much is read -/
theorem readR_len (s : ByteArray) : ∀ (f k : Nat) (l out : List UInt8), Esc.readR false s f k l = some out → out.length ≤ l.length + f
  | 0, k, l, out, h => by rw [Esc.readR] at h; cases h; omega
  | f + 1, k, l, out, h => by
    rw [Esc.readR] at h
    split at h
    · split at h
      · split at h
        · have := readR_len s f _ _ _ h
          rw [List.length_append, List.length_singleton] at this
          omega
        · cases h
      · split at h
        · cases h
        · have := readR_len s f _ _ _ h
          rw [List.length_append, List.length_singleton] at this
          omega
    · cases h; omega
theorem readV_len {z : List UInt8} {w : ByteArray} (h : readV z = some w) : w.size ≤ z.length := by
  unfold readV at h
  obtain ⟨l, hl, rfl⟩ := Option.map_eq_some_iff.1 h
  unfold Esc.readL at hl
  split at hl
  · cases hl
  · have := readR_len _ _ _ _ _ hl
    rw [← size_bl, bl_of]
    have hz : (bt' z).size = z.length := by rw [← size_bl, bl_of]
    rw [hz] at this
    simpa using this
theorem endK_len (x : List UInt8) : (endK x).2.length ≤ x.length := by
  unfold endK
  split
  · simp
  split
  · simp
  split
  · simp
  · simp
theorem allM_mem {α β : Type} (g : α → Option β) : ∀ (l : List α) (v : List β), Dn.allM g l = some v → ∀ y ∈ v, ∃ x ∈ l, g x = some y
  | [], v, h, y, hy => by cases h; cases hy
  | x :: r, v, h, y, hy => by
    rw [Dn.allM] at h
    cases hg : g x with
    | none => rw [hg] at h; cases h
    | some z =>
      rw [hg] at h
      dsimp only at h
      obtain ⟨w, hw, rfl⟩ := Option.map_eq_some_iff.1 h
      rcases List.mem_cons.1 hy with rfl | hy
      · exact ⟨x, by simp, hg⟩
      · obtain ⟨x', h1, h2⟩ := allM_mem g r w hw y hy
        exact ⟨x', by simp [h1], h2⟩
/-- an item is not too large -/
theorem item_mid {s : List UInt8} {f : Flt} (hs : s.length ≤ 100000000) (h : itemF s = some f) : midF f ∧ f.l = [] := by
  unfold itemF at h
  split at h
  · cases h
  rename_i x y hx
  have hxy := congrArg List.length (cutL_app 61 _ _ _ hx)
  rw [List.length_append, List.length_cons] at hxy
  have hz : ∀ l : List UInt8, (bt' l).size = l.length := fun l => by rw [← size_bl, bl_of]
  have he := endK_len x
  split at h
  · split at h
    · cases h
      exact ⟨⟨by rw [hz]; omega, Nat.zero_le _, Nat.zero_le _, Nat.zero_le _, Nat.zero_le _, trivial⟩, rfl⟩
    · split at h
      · rename_i w r hw
        cases h
        have hlen := allM_len _ _ _ hw
        rw [List.length_cons] at hlen
        have hsl := split_len 42 y
        have hsz : ∀ u ∈ w :: r, u.size ≤ 100000000 := fun u hu => by
          obtain ⟨z, hz1, hz2⟩ := allM_mem _ _ _ hw u hu
          have h1 := readV_len hz2
          have h2 := split_sub 42 y z hz1
          omega
        refine ⟨⟨by rw [hz]; omega, hsz w (by simp), ?_, by rw [List.length_dropLast]; omega, Nat.zero_le _, trivial⟩, rfl⟩
        cases hr : r.getLast? with
        | none => exact Nat.zero_le _
        | some u => exact hsz u (by simp [List.mem_of_getLast? hr])
      · cases h
  · obtain ⟨w, hw, rfl⟩ := Option.map_eq_some_iff.1 h
    have h1 := readV_len hw
    exact ⟨⟨by rw [hz]; omega, by omega, Nat.zero_le _, Nat.zero_le _, Nat.zero_le _, trivial⟩, rfl⟩
def RdMid (rd : List UInt8 → Option (Flt × List UInt8)) : Prop := ∀ r f t, r.length ≤ 100000000 → rd r = some (f, t) → midF f ∧ ∀ k, (preF k f).length + t.length ≤ r.length
theorem pre_pos (k : Nat) (f : Flt) : 1 ≤ (preF k f).length := by rw [preF_cons]; simp
theorem loop_mid {rd : List UInt8 → Option (Flt × List UInt8)} (h : RdMid rd) : ∀ (n : Nat) (r : List UInt8) (l : List Flt) (t : List UInt8), r.length ≤ 100000000 → loopL rd n r = some (l, t) → midFs l ∧ (∀ k, (preFs k l).length + t.length ≤ r.length) ∧ l.length + t.length ≤ r.length
  | 0, r, l, t, hr, e => by rw [loopL] at e; cases e; exact ⟨trivial, fun k => by show 0 + _ ≤ _; omega, by show 0 + _ ≤ _; omega⟩
  | n + 1, r, l, t, hr, e => by
    unfold loopL at e
    split at e
    · rename_i r0
      split at e
      · rename_i x r' hx
        obtain ⟨⟨l', t'⟩, h1, h2⟩ := Option.map_eq_some_iff.1 e
        cases h2
        obtain ⟨g1, g2⟩ := h _ _ _ hr hx
        have g0 := g2 0
        have gp := pre_pos 0 x
        obtain ⟨i1, i2, i3⟩ := loop_mid h n r' l' t' (by omega) h1
        refine ⟨⟨g1, i1⟩, fun k => ?_, by show l'.length + 1 + t'.length ≤ _; omega⟩
        have := g2 k
        have := i2 k
        show (preFs k (x :: l')).length + t'.length ≤ _
        rw [preFs, List.length_append]
        omega
      · cases e
    · cases e
      exact ⟨trivial, fun k => by show 0 + _ ≤ _; omega, by show 0 + _ ≤ _; omega⟩
theorem rd_mid : ∀ d : Nat, RdMid (rdF d)
  | 0 => fun r f t _ h => by cases h
  | d + 1 => fun r f t hr h => by
    have hs : ∀ (k : Int) (c : UInt8) (r0 : List UInt8), r = 40 :: c :: r0 → setK (rdF d) k r0 = some (f, t) → midF f ∧ ∀ k, (preF k f).length + t.length ≤ r.length := fun k c r0 e hset => by
      clear h
      subst e
      obtain ⟨l, hl, rfl⟩ := set_some hset
      simp only [List.length_cons] at hr ⊢
      obtain ⟨i1, i2, i3⟩ := loop_mid (rd_mid d) _ _ _ _ (by omega) hl
      rw [List.length_cons] at i3
      refine ⟨⟨Nat.zero_le _, Nat.zero_le _, Nat.zero_le _, Nat.zero_le _, by omega, i1⟩, fun k => ?_⟩
      have := i2 (k + 1)
      rw [preF, List.length_cons]
      rw [List.length_cons] at this
      omega
    unfold rdF at h
    split at h
    · split at h
      · exact hs _ _ _ rfl h
      · exact hs _ _ _ rfl h
      · exact hs _ _ _ rfl h
      · split at h
        · rename_i s t' hc
          obtain ⟨f', hi, h2⟩ := Option.map_eq_some_iff.1 h
          cases h2
          have h3 := congrArg List.length (cutL_app _ _ _ _ hc)
          rw [List.length_append, List.length_cons] at h3
          rw [List.length_cons] at hr
          obtain ⟨g1, g2⟩ := item_mid (by omega) hi
          refine ⟨g1, fun k => ?_⟩
          rw [preF_cons, g2, List.length_cons, List.length_cons]
          show 0 + 1 + _ ≤ _
          omega
        · cases h
    · cases h
/-! ### Parse -/
def paR (s : List UInt8) : T := match parsedF s with
  | some f => .tup [.v (.agg (cG f)), .v (.int .i64 0)]
  | none => .tup [.v (.agg (cG f0)), .v (.int .i64 80)]
theorem parsed_fn (s : ByteArray) (hs : s.size ≤ 100000000) : ∃ r, itOk (parsedF (bl s)) r ∧ (match r with | .tup [.v (.agg x), e] => (∃ f, x = cG f ∧ (parsedF (bl s) = none → f = f0)) ∧ (e = .v .nili ∨ ∃ i, e = .v (fErr i)) | _ => False) ∧ Fn Tryz.prog (envX p) 33 [.v (.str s)] r := by
  obtain ⟨r0, css, ho, hr⟩ := read_fn p s hs 6 0 (by omega) (Nat.zero_le _)
  rw [List.drop_zero] at ho
  unfold parsedF
  cases hrd : rdF 6 (bl s) with
  | none =>
    rw [hrd] at ho
    obtain ⟨g, i, a', ha', rfl, rfl⟩ := ho
    refine ⟨.tup [.v (.agg (cG f0)), .v (fErr i)], ⟨f0, i, rfl⟩, ⟨⟨f0, rfl, fun _ => rfl⟩, .inr ⟨i, rfl⟩⟩, ?_⟩
    refine fn_prog tabOk mixed Tryz.f33 Tryz.func33 (by kernel_rfl) (by kernel_rfl) ?_
    conv => whnf
    (refine st_callM [10] (hr) rfl ?_ ?_ rfl ?_; (focus ((repeat' (first | exact trivial | exact rfl | exact Or.inl rfl | exact Or.inr ⟨rfl, rfl⟩ | refine And.intro ?_ ?_)); done)); (focus ((repeat' (first | exact trivial | exact rfl | exact Or.inl rfl | exact Or.inr ⟨rfl, rfl⟩ | refine And.intro ?_ ?_)); done)); conv => whnf)
    exact ⟨⟨.inr ⟨rfl, rfl⟩, .inl rfl, trivial⟩, rfl⟩
  | some q =>
    obtain ⟨f, t⟩ := q
    rw [hrd] at ho
    obtain ⟨rfl, rfl⟩ := ho
    obtain ⟨g1, g2⟩ := rd_mid 6 _ _ _ (by rw [size_bl]; exact hs) hrd
    have g3 := g2 1
    rw [size_bl] at g3
    cases t with
    | cons c t' =>
      refine ⟨.tup [.v (.agg (cG f0)), .v (fErr (s.size - (c :: t').length : Nat))], ⟨f0, _, rfl⟩, ⟨⟨f0, rfl, fun _ => rfl⟩, .inr ⟨_, rfl⟩⟩, ?_⟩
      refine fn_prog tabOk mixed Tryz.f33 Tryz.func33 (by kernel_rfl) (by kernel_rfl) ?_
      conv => whnf
      (refine st_callM [10] (hr) rfl ?_ ?_ rfl ?_; (focus ((repeat' (first | exact trivial | exact rfl | exact Or.inl rfl | exact Or.inr ⟨rfl, rfl⟩ | refine And.intro ?_ ?_)); done)); (focus ((repeat' (first | exact trivial | exact rfl | exact Or.inl rfl | exact Or.inr ⟨rfl, rfl⟩ | refine And.intro ?_ ?_)); done)); conv => whnf)
      refine ⟨rfl, cmp_true (by rw [List.length_cons] at g3 ⊢; omega) ?_⟩
      conv => whnf
      exact ⟨⟨.inr ⟨rfl, rfl⟩, .inl rfl, trivial⟩, rfl⟩
    | nil =>
      by_cases hR : rightF 1 f = true
      · dsimp only
        rw [if_pos hR]
        refine ⟨.tup [.v (.agg (cG f)), .v .nili], rfl, ⟨⟨f, rfl, fun h => by cases h⟩, .inl rfl⟩, ?_⟩
        refine fn_prog tabOk mixed Tryz.f33 Tryz.func33 (by kernel_rfl) (by kernel_rfl) ?_
        conv => whnf
        (refine st_callM [10] (hr) rfl ?_ ?_ rfl ?_; (focus ((repeat' (first | exact trivial | exact rfl | exact Or.inl rfl | exact Or.inr ⟨rfl, rfl⟩ | refine And.intro ?_ ?_)); done)); (focus ((repeat' (first | exact trivial | exact rfl | exact Or.inl rfl | exact Or.inr ⟨rfl, rfl⟩ | refine And.intro ?_ ?_)); done)); conv => whnf)
        refine ⟨rfl, cmp_false (by rw [List.length_nil]; omega) ?_⟩
        conv => whnf
        have hrf := right_fn p f g1 (by omega)
        rw [hR] at hrf
        (refine st_call hrf ?_ rfl rfl ?_; (focus ((repeat' (first | exact trivial | exact rfl | exact Or.inl rfl | exact Or.inr ⟨rfl, rfl⟩ | refine And.intro ?_ ?_)); done)); conv => whnf)
        exact ⟨⟨.inl rfl, .inl rfl, trivial⟩, rfl⟩
      · dsimp only
        rw [if_neg hR]
        refine ⟨.tup [.v (.agg (cG f0)), .v (fErr (s.size - ([] : List UInt8).length : Nat))], ⟨f0, _, rfl⟩, ⟨⟨f0, rfl, fun _ => rfl⟩, .inr ⟨_, rfl⟩⟩, ?_⟩
        refine fn_prog tabOk mixed Tryz.f33 Tryz.func33 (by kernel_rfl) (by kernel_rfl) ?_
        conv => whnf
        (refine st_callM [10] (hr) rfl ?_ ?_ rfl ?_; (focus ((repeat' (first | exact trivial | exact rfl | exact Or.inl rfl | exact Or.inr ⟨rfl, rfl⟩ | refine And.intro ?_ ?_)); done)); (focus ((repeat' (first | exact trivial | exact rfl | exact Or.inl rfl | exact Or.inr ⟨rfl, rfl⟩ | refine And.intro ?_ ?_)); done)); conv => whnf)
        refine ⟨rfl, cmp_false (by rw [List.length_nil]; omega) ?_⟩
        conv => whnf
        have hrf := right_fn p f g1 (by omega)
        rw [show rightF 1 f = false by simpa using hR] at hrf
        (refine st_call hrf ?_ rfl rfl ?_; (focus ((repeat' (first | exact trivial | exact rfl | exact Or.inl rfl | exact Or.inr ⟨rfl, rfl⟩ | refine And.intro ?_ ?_)); done)); conv => whnf)
        exact ⟨⟨.inr ⟨rfl, rfl⟩, .inl rfl, trivial⟩, rfl⟩
theorem parse_fn (s : ByteArray) (hs : s.size ≤ 100000000) : Fn Tryz.prog (envX p) 16 [.v (.str s)] (paR (bl s)) := by
  obtain ⟨r, ho, hx, hr⟩ := parsed_fn p s hs
  unfold paR
  cases hp : parsedF (bl s) with
  | none =>
    rw [hp] at ho hx
    obtain ⟨g, i, rfl⟩ := ho
    obtain ⟨⟨g', e1, e2⟩, _⟩ := hx
    rw [e2 rfl] at e1
    rw [e1] at hr
    refine fn_prog tabOk mixed Tryz.f16 Tryz.func16 (by kernel_rfl) (by kernel_rfl) ?_
    conv => whnf
    (refine st_call hr ?_ rfl rfl ?_; (focus ((repeat' (first | exact trivial | exact rfl | exact Or.inl rfl | exact Or.inr ⟨rfl, rfl⟩ | refine And.intro ?_ ?_)); done)); conv => whnf)
    refine ⟨none, by kernel_rfl, ?_⟩; conv => whnf
    (refine st_call (told_wrong_fn p i) ?_ rfl rfl ?_; (focus ((repeat' (first | exact trivial | exact rfl | exact Or.inl rfl | exact Or.inr ⟨rfl, rfl⟩ | refine And.intro ?_ ?_)); done)); conv => whnf)
    exact ⟨⟨.inl rfl, .inl rfl, trivial⟩, rfl⟩
  | some f =>
    rw [hp] at ho
    obtain rfl := ho
    refine fn_prog tabOk mixed Tryz.f16 Tryz.func16 (by kernel_rfl) (by kernel_rfl) ?_
    conv => whnf
    (refine st_call hr ?_ rfl rfl ?_; (focus ((repeat' (first | exact trivial | exact rfl | exact Or.inl rfl | exact Or.inr ⟨rfl, rfl⟩ | refine And.intro ?_ ?_)); done)); conv => whnf)
    refine ⟨none, by kernel_rfl, ?_⟩; conv => whnf
    (refine st_call (told_nil_fn p) ?_ rfl rfl ?_; (focus ((repeat' (first | exact trivial | exact rfl | exact Or.inl rfl | exact Or.inr ⟨rfl, rfl⟩ | refine And.intro ?_ ?_)); done)); conv => whnf)
    exact ⟨⟨.inl rfl, .inl rfl, trivial⟩, rfl⟩
end Go.Proofs.YtajpgigeploodaaGreatDoor.Fi
/- The statements of latinerlaw08, walked: what they share. -/
namespace Go.Proofs.YtajpgigeploodaaGreatDoor.Fi
open Go.RowKit Go.Shelf Go.Lib Fl
set_option linter.unusedVariables false
/-! nil slices, however deep -/
mutual
def nzd : V → V
  | .nils => .sl []
  | .agg l => .agg (nzds l)
  | .sl xs => .sl (nzdss xs)
  | .int k n => .int k n
  | .bool b => .bool b
  | .str s => .str s
  | .nili => .nili
  | .ifc t x => .ifc t x
  | .raw v => .raw v
  | .mp ks vs => .mp ks vs
def nzds : List V → List V
  | [] => []
  | x :: r => nzd x :: nzds r
def nzdss : List (List V) → List (List V)
  | [] => []
  | c :: r => nzds c :: nzdss r
end
theorem nzd_one : ∀ x : V, x.one = true → (nzd x).one = true := fun x h => by cases x <;> first | exact h | rfl
theorem nzds_len : ∀ l : List V, (nzds l).length = l.length
  | [] => rfl
  | x :: r => by rw [nzds, List.length_cons, List.length_cons, nzds_len r]
theorem nzdss_len : ∀ l : List (List V), (nzdss l).length = l.length
  | [] => rfl
  | x :: r => by rw [nzdss, List.length_cons, List.length_cons, nzdss_len r]
mutual
theorem nzd_rep {w : World} {L : Lv} : ∀ (x : V) (v : Value), Rep w L x v → Rep w L (nzd x) v
  | .nils, v, h => ⟨none, 0, h, Nat.le_refl _, fun e => absurd rfl e⟩
  | .agg l, v, ⟨cs, e, h⟩ => ⟨cs, e, nzds_rep l cs.toList h⟩
  | .sl xs, v, ⟨A, c, e, h1, h2⟩ => ⟨A, c, by rw [nzdss_len]; exact e, by rw [nzdss_len]; exact h1, fun hn => by
      have hx : xs ≠ [] := by rintro rfl; exact hn rfl
      obtain ⟨b, o, k, e1, h3⟩ := h2 hx
      exact ⟨b, o, k, e1, nzdss_rep b k xs o h3⟩⟩
  | .int _ _, _, h => h
  | .bool _, _, h => h
  | .str _, _, h => h
  | .nili, _, h => h
  | .ifc _ _, _, h => h
  | .raw _, _, h => h
  | .mp _ _, _, h => h
theorem nzds_rep {w : World} {L : Lv} : ∀ (l : List V) (cs : List Value), RepL w L l cs → RepL w L (nzds l) cs
  | [], _, h => h
  | x :: r, _, ⟨u, us, e, h1, h2, h3⟩ => ⟨u, us, e, nzd_one x h1, nzd_rep x u h2, nzds_rep r us h3⟩
theorem nzdc_rep {w : World} {L : Lv} (b : Nat) : ∀ (l : List V) (o : Nat), RepC w L b o l → RepC w L b o (nzds l)
  | [], _, _ => trivial
  | x :: r, o, ⟨⟨u, h1, h2, h3, h4⟩, h5⟩ => ⟨⟨u, h1, h2, nzd_one x h3, nzd_rep x u h4⟩, nzdc_rep b r (o + 1) h5⟩
theorem nzdss_rep {w : World} {L : Lv} (b e : Nat) : ∀ (xs : List (List V)) (o : Nat), RepE w L b e o xs → RepE w L b e o (nzdss xs)
  | [], _, _ => trivial
  | c :: r, o, ⟨h1, h2, h3⟩ => ⟨by rw [nzds_len]; exact h1, nzdc_rep b c o h2, nzdss_rep b e r (o + e) h3⟩
end
/-- a contract, of what comes in otherwise -/
theorem Fn.arg1 {P : Program} {X : En} {f : FuncId} {x x' : V} {ts : List T} {r : T} (h : Fn P X f (.v x :: ts) r) (hx : ∀ w L v, Rep w L x' v → Rep w L x v) : Fn P X f (.v x' :: ts) r :=
  ⟨h.1, fun w L vs hE hL ⟨v, us, e, h1, h2⟩ => h.2 w L vs hE hL ⟨v, us, e, hx w L v h1, h2⟩⟩
theorem deep {x x' : V} (h : nzd x' = x) : ∀ w L v, Rep w L x' v → Rep w L x v := fun w L v hv => h ▸ nzd_rep x' v hv
variable {X : En}
theorem texts_fn (a b : List ByteArray) (ha : a.length ≤ 1000000000) : Fn Tryz.prog X 22 [.v (.sl (a.map encS)), .v (.sl (b.map encS))] (.v (.bool (decide (a = b)))) := by
  refine fn_prog tabOk mixed Tryz.f22 Tryz.func22 (by kernel_rfl) (by kernel_rfl) ?_
  conv => whnf
  refine ⟨rfl, cmp_split (fun h => ?_) (fun h => ?_)⟩
  · rw [List.length_map, List.length_map] at h
    conv => whnf
    exact ⟨.inl (congrArg V.bool (decide_eq_false (fun e => h (by rw [e]))).symm), rfl⟩
  rw [List.length_map, List.length_map] at h
  have hab : a.length = b.length := by omega
  conv => whnf
  refine ⟨Nat, fun i => ⟨26, [(0, .v (.sl (a.map encS))), (1, .v (.sl (b.map encS))), (5, .v (.int .i64 (i : Nat)))], [], []⟩, fun i => i ≤ a.length ∧ a.take i = b.take i, fun i => a.length - i, ⟨0, [], ⟨by omega, by simp⟩, ?_⟩, fun i ⟨hi, he⟩ => ?_⟩
  · (focus ((repeat' (first | exact trivial | exact rfl | exact Or.inl rfl | exact Or.inr ⟨rfl, rfl⟩ | refine And.intro ?_ ?_)); done))
  conv => whnf
  refine ⟨rfl, cmp_split (fun h => ?_) (fun h => ?_)⟩
  · rw [List.length_map] at h
    have hil : i < a.length := by omega
    have hib : i < b.length := by omega
    conv => whnf
    refine ⟨none, by kernel_rfl, ?_⟩; conv => whnf
    refine st_idx hil rfl ?_
    conv => whnf
    refine st_idx hib rfl ?_
    conv => whnf
    refine cmp_split (fun h2 => ?_) (fun h2 => ?_)
    · conv => whnf
      exact ⟨.inl (congrArg V.bool (decide_eq_false (fun e => h2 (by subst e; rfl))).symm), rfl⟩
    · conv => whnf
      refine ⟨rfl, st_succ (by omega) ?_⟩
      conv => whnf
      refine ⟨i + 1, [], ⟨by omega, ?_⟩, by dsimp only; omega, ?_⟩
      · rw [List.take_succ_eq_append_getElem hil, List.take_succ_eq_append_getElem hib, he, Classical.not_not.1 h2]
      · (focus ((repeat' (first | exact trivial | exact rfl | exact Or.inl rfl | exact Or.inr ⟨rfl, rfl⟩ | refine And.intro ?_ ?_)); done))
  · rw [List.length_map] at h
    conv => whnf
    rw [List.take_of_length_le (by omega), List.take_of_length_le (by omega)] at he
    exact ⟨.inl (congrArg V.bool (decide_eq_true he).symm), rfl⟩
theorem hex_fn (s : ByteArray) (hs : s.size ≤ 100000000) : Fn Tryz.prog X 28 [.v (.str s)] (.v (.str (bt' (Code.hexL (bl s))))) :=
  Fn.of_plain (enter_of (by kernel_rfl)) rfl fun w L vs hE ha => by
    obtain ⟨v, rfl, h⟩ := one_arg ha
    rw [show v = _ from h]
    exact Code.hex_calls s w hs
/-! ### some filters are known -/
def xF : Flt := .mk 0 (bt' []) (bt' []) [] (bt' []) [.mk 3 (bt' [97]) (bt' [49]) [] (bt' []) [], .mk 2 (bt' []) (bt' []) [] (bt' []) [.mk 4 (bt' [98]) (bt' [120]) [] (bt' [121]) []]]
def xT : List UInt8 := [40, 38, 40, 97, 61, 49, 41, 40, 33, 40, 98, 61, 120, 42, 121, 41, 41, 41]
theorem xF_right : rightF 1 xF = true := by decide +kernel
theorem xF_text : prF xF = xT := by decide +kernel
theorem xF_names : namesF xF = [bt' [97], bt' [98]] := by
  unfold namesF
  rw [if_pos xF_right]
  decide +kernel
theorem x2 : parsedF [40, 97, 61, 42, 41] = some (.mk 7 (bt' [97]) (bt' []) [] (bt' []) []) := by kernel_rfl
theorem x3 : parsedF [40, 97, 61, 42, 42, 41] = none := by kernel_rfl
mutual
theorem mid_right : ∀ (d : Nat) (f : Flt), rightF d f = true → midF f
  | d, .mk k n v a fi l, h => by
    obtain ⟨_, h1, h2⟩ := right_one h
    obtain ⟨g1, g2, g3, g4, g5, g6, _⟩ := one_short h1
    exact ⟨by omega, by omega, by omega, by omega, by omega, mids_right (d + 1) l h2⟩
theorem mids_right : ∀ (d : Nat) (l : List Flt), rightFs d l = true → midFs l
  | _, [], _ => trivial
  | d, x :: r, h => by
    rw [rightFs, Bool.and_eq_true] at h
    exact ⟨mid_right d x h.1, mids_right d r h.2⟩
end
mutual
/-- a right filter has not many in it -/
theorem cnt_right : ∀ (d m : Nat) (f : Flt), d + m = 7 → rightF d f = true → (preF d f).length ≤ lb m
  | d, 0, .mk k n v a f l, hd, h => by
    rw [rightF, Bool.and_eq_true] at h
    have := of_decide_eq_true h.1
    omega
  | d, m + 1, .mk k n v a f l, hd, h => by
    obtain ⟨_, h1, h2⟩ := right_one h
    obtain ⟨g1, g2, g3, g4, g5, g6, _⟩ := one_short h1
    have h3 := cnts_right (d + 1) m l (by omega) h2
    have h5 : l.length * lb m ≤ 8 * lb m := Nat.mul_le_mul_right _ g6
    rw [preF, List.length_cons, lb]
    omega
theorem cnts_right : ∀ (d m : Nat) (l : List Flt), d + m = 7 → rightFs d l = true → (preFs d l).length ≤ l.length * lb m
  | _, _, [], _, _ => Nat.zero_le _
  | d, m, x :: r, hd, h => by
    rw [rightFs, Bool.and_eq_true] at h
    have h1 := cnt_right d m x hd h.1
    have h2 := cnts_right d m r hd h.2
    rw [preFs, List.length_append, List.length_cons, Nat.succ_mul]
    omega
end
theorem cnt_bound {f : Flt} (h : rightF 1 f = true) : (preF 1 f).length ≤ 500000000 := Nat.le_trans (cnt_right 1 6 f rfl h) (by decide)
variable (p : Nat → Addr)
def xV : V := .agg [.int .i64 0, .str (bt' []), .str (bt' []), .nils, .str (bt' []), .sl [[.int .i64 3, .str (bt' [97]), .str (bt' [49]), .nils, .str (bt' []), .nils], [.int .i64 2, .str (bt' []), .str (bt' []), .nils, .str (bt' []), .sl [[.int .i64 4, .str (bt' [98]), .str (bt' [120]), .nils, .str (bt' [121]), .nils]]]]]
theorem xV_nz : nzd xV = .agg (cG xF) := rfl
theorem xF_mid : midF xF := by
  refine ⟨?_, ?_, ?_, ?_, ?_, ⟨?_, ?_, ?_, ?_, ?_, trivial⟩, ⟨?_, ?_, ?_, ?_, ?_, ⟨?_, ?_, ?_, ?_, ?_, trivial⟩, trivial⟩, trivial⟩ <;> decide
theorem shown_fn : Fn Tryz.prog (envX p) 11 [] (.v (.bool true)) := by
  have h1 := Fn.arg1 (print_fn p xF xF_mid (by decide)) (deep xV_nz)
  unfold prR at h1
  rw [if_pos xF_right, xF_text] at h1
  have h2 := parse_fn p (bt' xT) (by decide)
  unfold paR at h2
  rw [bl_of, ← xF_text, parsed_print xF xF_right] at h2
  have h3 := parse_fn p { data := #[40, 97, 61, 42, 41] } (by decide)
  unfold paR at h3
  rw [show bl { data := #[40, 97, 61, 42, 41] } = [40, 97, 61, 42, 41] from rfl, x2] at h3
  have h4 := parse_fn p { data := #[40, 97, 61, 42, 42, 41] } (by decide)
  unfold paR at h4
  rw [show bl { data := #[40, 97, 61, 42, 42, 41] } = [40, 97, 61, 42, 42, 41] from rfl, x3] at h4
  have h5 := Fn.arg1 (names_fn p xF xF_mid (by decide)) (deep xV_nz)
  rw [xF_names] at h5
  have h6 := Fn.arg1 (same_fn (X := envX p) xF xF xF_mid xF_mid) (deep xV_nz)
  rw [sameF_refl] at h6
  have h7 := texts_fn (X := envX p) [bt' [97], bt' [98]] [bt' [97], bt' [98]] (by decide)
  rw [decide_eq_true rfl] at h7
  have h8 := name_fn p { data := #[99, 110, 59, 108, 97, 110, 103, 45, 100, 101] } (by decide)
  rw [show nameB (bl { data := #[99, 110, 59, 108, 97, 110, 103, 45, 100, 101] }) = true by decide +kernel] at h8
  have h9 := name_fn p { data := #[99, 110, 59] } (by decide)
  rw [show nameB (bl { data := #[99, 110, 59] }) = false by decide +kernel] at h9
  refine fn_prog tabOk mixed Tryz.f11 Tryz.func11 (by kernel_rfl) (by kernel_rfl) ?_
  conv => whnf
  (refine st_call h1 ?_ rfl rfl ?_; (focus ((repeat' (first | exact trivial | exact rfl | exact Or.inl rfl | exact Or.inr ⟨rfl, rfl⟩ | refine And.intro ?_ ?_)); done)); conv => whnf)
  (refine st_call h2 ?_ rfl rfl ?_; (focus ((repeat' (first | exact trivial | exact rfl | exact Or.inl rfl | exact Or.inr ⟨rfl, rfl⟩ | refine And.intro ?_ ?_)); done)); conv => whnf)
  (refine st_call h3 ?_ rfl rfl ?_; (focus ((repeat' (first | exact trivial | exact rfl | exact Or.inl rfl | exact Or.inr ⟨rfl, rfl⟩ | refine And.intro ?_ ?_)); done)); conv => whnf)
  (refine st_call h4 ?_ rfl rfl ?_; (focus ((repeat' (first | exact trivial | exact rfl | exact Or.inl rfl | exact Or.inr ⟨rfl, rfl⟩ | refine And.intro ?_ ?_)); done)); conv => whnf)
  (refine st_call h5 ?_ rfl rfl ?_; (focus ((repeat' (first | exact trivial | exact rfl | exact Or.inl rfl | exact Or.inr ⟨rfl, rfl⟩ | refine And.intro ?_ ?_)); done)); conv => whnf)
  refine cmp_true rfl ?_
  conv => whnf
  refine ⟨rfl, cmp_true rfl ?_⟩
  conv => whnf
  refine ⟨rfl, cmp_true rfl ?_⟩
  conv => whnf
  (refine st_call h6 ?_ rfl rfl ?_; (focus ((repeat' (first | exact trivial | exact rfl | exact Or.inl rfl | exact Or.inr ⟨rfl, rfl⟩ | refine And.intro ?_ ?_)); done)); conv => whnf)
  refine ⟨rfl, cmp_true rfl ?_⟩
  conv => whnf
  refine ⟨rfl, cmp_true rfl ?_⟩
  conv => whnf
  refine ⟨rfl, cmp_true rfl ?_⟩
  conv => whnf
  (refine st_call h7 ?_ rfl rfl ?_; (focus ((repeat' (first | exact trivial | exact rfl | exact Or.inl rfl | exact Or.inr ⟨rfl, rfl⟩ | refine And.intro ?_ ?_)); done)); conv => whnf)
  (refine st_call h8 ?_ rfl rfl ?_; (focus ((repeat' (first | exact trivial | exact rfl | exact Or.inl rfl | exact Or.inr ⟨rfl, rfl⟩ | refine And.intro ?_ ?_)); done)); conv => whnf)
  (refine st_call h9 ?_ rfl rfl ?_; (focus ((repeat' (first | exact trivial | exact rfl | exact Or.inl rfl | exact Or.inr ⟨rfl, rfl⟩ | refine And.intro ?_ ?_)); done)); conv => whnf)
  exact ⟨.inl rfl, rfl⟩
end Go.Proofs.YtajpgigeploodaaGreatDoor.Fi
