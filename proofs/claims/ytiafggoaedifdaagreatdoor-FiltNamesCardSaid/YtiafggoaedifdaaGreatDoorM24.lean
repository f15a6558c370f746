/- Several texts, one behind the other. filt, walked: right filters printed. filt, walked: right filters printed. filt, walked: Print. Conditions: texts of at most 10^8 bytes. filt, walked: values told as zero values; right filters are not too large. filt, walked: sets of filters, read: the closure at the end. Conditions: texts of at most 10^6 bytes. A reader of the package esc: a struct whose last field is a strings.Builder: its methods there. Conditions: the shape of memory that each theorem names. Contracts of functions of Go's library, as the kit's shelf proves them of whatever program, at this program's numbers. Each states its own conditions. strings.IndexRune at the digits and a rune that is none of ASCII's, and has two bytes, or is none. Conditions: those. -/
import Derived.Test.YtiafggoaedifdaaGreatDoorM23
import Derived.Test.YtiafggoaedifdaaGreatDoorM19
import Derived.Test.YtiafggoaedifdaaGreatDoorM20
import Derived.Test.YtiafggoaedifdaaGreatDoorM14
import Derived.Shelf.Strings.Builder1
import Derived.Deep.QuietTactic
import Derived.BigQuiet
import Derived.RegionTactic
import Derived.ChangeAlike
import Derived.Shelf.Strings.Runes
import Derived.Shelf.Small.Strs
import Derived.Test.YtiafggoaedifdaaGreatDoorProg
import Derived.Test.YtiafggoaedifdaaGreatDoorM13
import Derived.Test.YtiafggoaedifdaaGreatDoorM16
/- filt, walked: right filters printed. -/
namespace Go.Proofs.YtiafggoaedifdaaGreatDoor.Fi
open Go.RowKit Go.Shelf Go.Lib Fl
set_option linter.unusedVariables false
/-- how long a right filter's text is, so many deep -/
def lb : Nat → Nat
  | 0 => 0
  | m + 1 => 2000 + 8 * lb m
theorem short_len {s : ByteArray} (h : shortB s = true) : s.size ≤ 60 := of_decide_eq_true h
theorem esc60 {s : ByteArray} (h : s.size ≤ 60) : (escF (bl s)).length ≤ 180 := by
  have := esc_len (bl s)
  rw [size_bl] at this
  omega
theorem flat_len (a : List ByteArray) (h : ∀ s ∈ a, s.size ≤ 60) : (a.flatMap fun s => escF (bl s) ++ [42]).length ≤ 181 * a.length := by
  induction a with
  | nil => exact Nat.le_refl _
  | cons s r ih =>
    rw [List.flatMap_cons, List.length_append, List.length_append, List.length_cons]
    have h1 := esc60 (h s (by simp))
    have h2 := ih fun s hs => h s (by simp [hs])
    simp only [List.length_cons, List.length_nil]
    omega
/-- what a right filter's texts are -/
theorem one_short {k : Int} {n v : ByteArray} {a : List ByteArray} {f : ByteArray} {l : List Flt} (h : oneB (.mk k n v a f l) = true) : n.size ≤ 30 ∧ v.size ≤ 60 ∧ f.size ≤ 60 ∧ (∀ s ∈ a, s.size ≤ 60) ∧ a.length ≤ 4 ∧ l.length ≤ 8 ∧ 0 ≤ k ∧ k ≤ 8 := by
  have hnm : nameB (bl n) = true → n.size ≤ 30 := fun h => by
    unfold nameB at h
    rw [Bool.and_eq_true, size_bl] at h
    exact of_decide_eq_true h.1
  unfold oneB at h
  dsimp only at h
  unfold namedB bareB at h
  split at h
  · simp only [Bool.and_eq_true, decide_eq_true_eq, List.isEmpty_iff] at h
    obtain ⟨h1, ⟨h2, h3, h4⟩, h5, h6, _⟩ := h
    subst h3
    refine ⟨by omega, by omega, by omega, by simp, by simp, h6, by omega, by omega⟩
  split at h
  · simp only [Bool.and_eq_true, decide_eq_true_eq, List.isEmpty_iff] at h
    obtain ⟨⟨h1, h2, h3, h4, h5⟩, h6, h7, h8⟩ := h
    subst h2 h7
    refine ⟨hnm h1, by omega, by omega, by simp, by simp, by simp, by omega, by omega⟩
  split at h
  · simp only [Bool.and_eq_true, decide_eq_true_eq, List.isEmpty_iff, List.all_eq_true] at h
    obtain ⟨⟨h1, h2, h3, h4, h5⟩, h6, h7, h8⟩ := h
    subst h2
    refine ⟨hnm h1, short_len h3, short_len h4, fun s hs => short_len (h5 s hs), h7, by simp, by omega, by omega⟩
  split at h
  · simp only [Bool.and_eq_true, decide_eq_true_eq, List.isEmpty_iff] at h
    obtain ⟨⟨h1, h2, h3, h4, h5⟩, h6, h7⟩ := h
    subst h2 h6
    refine ⟨hnm h1, short_len h3, by omega, by simp, by simp, by simp, by omega, by omega⟩
  · cases h
theorem mid_len {k : Int} {v : ByteArray} {a : List ByteArray} {f : ByteArray} (hv : v.size ≤ 60) (hf : f.size ≤ 60) (ha : ∀ s ∈ a, s.size ≤ 60) (hl : a.length ≤ 4) : (midB k v a f).length ≤ 1200 := by
  have h1 := esc60 hv
  have h2 := esc60 hf
  have h3 := flat_len (v :: a) (fun s hs => by rcases List.mem_cons.1 hs with rfl | hs; exact hv; exact ha s hs)
  have h4 : (signB k).length ≤ 2 := by
    unfold signB
    repeat (split; · decide)
    decide
  unfold midB
  split
  · simp
  split
  · rw [List.cons_append, List.length_cons, List.length_append]
    rw [List.length_cons] at h3
    omega
  · rw [List.length_append]; omega
mutual
theorem pr_len : ∀ (d m : Nat) (f : Flt), d + m = 7 → rightF d f = true → (prF f).length ≤ lb m
  | d, 0, .mk k n v a f l, hd, h => by
    rw [rightF, Bool.and_eq_true] at h
    have := of_decide_eq_true h.1
    omega
  | d, m + 1, .mk k n v a f l, hd, h => by
    rw [rightF, Bool.and_eq_true, Bool.and_eq_true] at h
    obtain ⟨_, h1, h2⟩ := h
    obtain ⟨g1, g2, g3, g4, g5, g6, _⟩ := one_short h1
    have h3 := prs_len (d + 1) m l (by omega) h2
    have h4 := mid_len (k := k) g2 g3 g4 g5
    have h5 : l.length * lb m ≤ 8 * lb m := Nat.mul_le_mul_right _ g6
    rw [prF, lb]
    simp only [List.length_cons, List.length_append, List.length_nil, size_bl]
    omega
theorem prs_len : ∀ (d m : Nat) (l : List Flt), d + m = 7 → rightFs d l = true → (prFs l).length ≤ l.length * lb m
  | _, _, [], _, _ => Nat.zero_le _
  | d, m, x :: r, hd, h => by
    rw [rightFs, Bool.and_eq_true] at h
    have h1 := pr_len d m x hd h.1
    have h2 := prs_len d m r hd h.2
    rw [prFs, List.length_append, List.length_cons, Nat.succ_mul]
    omega
end
theorem pr_bound {d : Nat} {f : Flt} (hd : 1 ≤ d) (h : rightF d f = true) : (prF f).length ≤ 100000000 := by
  have hd6 : d ≤ 6 := (right_one h).1
  have hm : ∀ a b : Nat, a ≤ b → lb a ≤ lb b := by
    have hs : ∀ a : Nat, lb a ≤ lb (a + 1) := by
      intro a
      induction a with
      | zero => exact Nat.zero_le _
      | succ a ih => rw [lb, lb]; omega
    intro a b hab
    induction hab with
    | refl => exact Nat.le_refl _
    | step _ ih => exact Nat.le_trans ih (hs _)
  have h1 := pr_len d (7 - d) f (by omega) h
  have h2 := hm (7 - d) 6 (by omega)
  have h3 : lb 6 ≤ 100000000 := by decide
  omega
theorem pre_len {l r x : List UInt8} (h : l ++ r = x) (hx : x.length ≤ 100000000) : l.length ≤ 1000000000 := by
  have := congrArg List.length h
  rw [List.length_append] at this
  omega
theorem cat_bt (a b : List UInt8) : bt' a ++ bt' b = bt' (a ++ b) := by
  apply ByteArray.ext
  apply Array.toList_inj.1
  show (bt' a ++ bt' b).data.toList = (a ++ b).toArray.toList
  simp [bt']
theorem prFs_take (l : List Flt) (i : Nat) (h : i < l.length) : prFs (l.take (i + 1)) = prFs (l.take i) ++ prF l[i] := by
  have happ : ∀ a b : List Flt, prFs (a ++ b) = prFs a ++ prFs b := by
    intro a
    induction a with
    | nil => intro b; rfl
    | cons x r ih => intro b; rw [List.cons_append, prFs, prFs, ih, List.append_assoc]
  rw [List.take_succ_eq_append_getElem h, happ]
  show _ ++ (prF l[i] ++ []) = _
  rw [List.append_nil]
theorem prFs_split (l : List Flt) (i : Nat) : prFs (l.take i) ++ prFs (l.drop i) = prFs l := by
  have happ : ∀ a b : List Flt, prFs (a ++ b) = prFs a ++ prFs b := by
    intro a
    induction a with
    | nil => intro b; rfl
    | cons x r ih => intro b; rw [List.cons_append, prFs, prFs, ih, List.append_assoc]
  rw [← happ, List.take_append_drop]
end Go.Proofs.YtiafggoaedifdaaGreatDoor.Fi
/- filt, walked: right filters printed. -/
namespace Go.Proofs.YtiafggoaedifdaaGreatDoor.Fi
open Go.RowKit Go.Shelf Go.Lib Fl
set_option linter.unusedVariables false
variable {X : En}
set_option maxHeartbeats 8000000 in
theorem printed_a (k : Int) (n v : ByteArray) (a : List ByteArray) (fi : ByteArray) (l : List Flt) (hb : (prF (.mk k n v a fi l)).length ≤ 100000000) (g1 : n.size ≤ 30) (g2 : v.size ≤ 60) (g3 : fi.size ≤ 60) (g4 : ∀ s ∈ a, s.size ≤ 60) (g5 : a.length ≤ 4) (g6 : l.length ≤ 8) (hk : k = 7) (hkids : ∀ x ∈ l, Fn Tryz.prog X 39 [.v (.agg (cG x))] (.v (.str (bt' (prF x))))) : Fn Tryz.prog X 39 [.v (.agg (cG (.mk k n v a fi l)))] (.v (.str (bt' (prF (.mk k n v a fi l))))) := by
  have hone : ({ data := #[40] } : ByteArray).size = 1 := rfl
  subst hk
  refine fnB_prog (d := 3) tabOk mixed Bld.bldOk Tryz.f39 Tryz.func39 (by kernel_rfl) rfl rfl rfl rfl (by kernel_rfl) (by kernel_rfl) ?_
  conv => whnf
  refine ⟨rfl, fun B => ?_⟩
  conv => whnf
  refine st_cat (by show 1 + n.size ≤ 9223372036854775807; omega) (z := bt' (40 :: bl n)) (cat_bt [40] (bl n)) ?_
  conv => whnf
  refine .inl ⟨rfl, _, _, _, 40 :: bl n, rfl, rfl, rfl, by rw [List.nil_append]; exact bl_of _, by simp, pre_len (r := midB 7 v a fi ++ prFs l ++ [41]) (by rw [prF]; try simp) hb, ?_⟩
  conv => whnf
  have hmid : midB 7 v a fi = [61, 42] := by unfold midB; rw [if_pos rfl]
  refine ⟨rfl, cmp_true rfl ?_⟩
  conv => whnf
  refine .inl ⟨rfl, _, _, _, 40 :: bl n ++ [61, 42], rfl, rfl, rfl, ?_, by simp, pre_len (r := prFs l ++ [41]) ?_ hb, ?_⟩
  · rfl
  · rw [prF, hmid]; simp
  conv => whnf
  refine ⟨Nat, fun i => ⟨62, [(1, .ptr 1 0), (3, .v (.raw (.pointer (some ⟨B, 0, none⟩)))), (50, .v (.sl (l.map cF))), (51, .v (.int .i64 ((l.map cF).length : Nat))), (52, .v (.int .i64 (i : Nat)))], [(1, (cG (.mk 7 n v a fi l)).map .v)], []⟩, fun i => some (40 :: bl n ++ midB 7 v a fi ++ prFs (l.take i)), fun i => i ≤ l.length, fun i => l.length - i, ⟨0, [], Nat.zero_le _, ?_, ?_⟩, fun i hi => ?_⟩
  · show some (40 :: bl n ++ midB 7 v a fi ++ prFs (l.take 0)) = _
    rw [List.take_zero]
    show some (40 :: bl n ++ midB 7 v a fi ++ []) = _
    rw [List.append_nil]; rw [hmid]
  · (focus ((repeat' (first | exact trivial | exact rfl | exact Or.inl rfl | exact Or.inr ⟨rfl, rfl⟩ | refine And.intro ?_ ?_)); done))
  conv => whnf
  refine ⟨rfl, cmp_split (fun h => ?_) (fun h => ?_)⟩
  · rw [List.length_map] at h
    have hil : i < l.length := by omega
    conv => whnf
    refine st_idxF hil ?_
    conv => whnf
    (refine st_call (hkids l[i] (List.getElem_mem hil)) ?_ rfl rfl ?_; (focus ((repeat' (first | exact trivial | exact rfl | exact Or.inl rfl | exact Or.inr ⟨rfl, rfl⟩ | refine And.intro ?_ ?_)); done)); conv => whnf)
    refine .inl ⟨rfl, _, _, _, 40 :: bl n ++ midB 7 v a fi ++ prFs (l.take (i + 1)), rfl, rfl, rfl, ?_, by simp, pre_len (r := prFs (l.drop (i + 1)) ++ [41]) ?_ hb, ?_⟩
    · rw [prFs_take l i hil, ← List.append_assoc]; congr 1
    · rw [prF, List.append_assoc (40 :: bl n ++ midB 7 v a fi), ← List.append_assoc (prFs (l.take (i + 1))), prFs_split]; simp
    conv => whnf
    refine ⟨rfl, st_succ (by omega) ?_⟩
    conv => whnf
    refine ⟨i + 1, [], by dsimp only; omega, rfl, by dsimp only; omega, ?_⟩
    (focus ((repeat' (first | exact trivial | exact rfl | exact Or.inl rfl | exact Or.inr ⟨rfl, rfl⟩ | refine And.intro ?_ ?_)); done))
  · rw [List.length_map] at h
    have hie : i = l.length := by omega
    subst hie
    conv => whnf
    rw [List.take_length]
    refine .inr ⟨rfl, _, rfl, rfl, ?_⟩
    conv => whnf
    refine st_cat ?_ (z := bt' (prF (.mk 7 n v a fi l))) ?_ ?_
    · have h1 := pre_len (l := 40 :: bl n ++ midB 7 v a fi ++ prFs l) (r := [41]) (by rw [prF]; try simp) hb
      have h2 : (⟨(40 :: bl n ++ midB 7 v a fi ++ prFs l).toArray⟩ : ByteArray).size = (40 :: bl n ++ midB 7 v a fi ++ prFs l).length := (size_bl _).symm.trans (congrArg List.length (bl_of _))
      rw [h2]
      have h3 : ({ data := #[41] } : ByteArray).size = 1 := rfl
      omega
    · have := cat_bt (40 :: bl n ++ midB 7 v a fi ++ prFs l) [41]
      rw [prF]
      refine this.trans (congrArg bt' ?_)
      simp
    conv => whnf
    exact ⟨.inl rfl, rfl⟩
set_option maxHeartbeats 8000000 in
theorem printed_b (k : Int) (n v : ByteArray) (a : List ByteArray) (fi : ByteArray) (l : List Flt) (hb : (prF (.mk k n v a fi l)).length ≤ 100000000) (g1 : n.size ≤ 30) (g2 : v.size ≤ 60) (g3 : fi.size ≤ 60) (g4 : ∀ s ∈ a, s.size ≤ 60) (g5 : a.length ≤ 4) (g6 : l.length ≤ 8) (hk : k = 4) (hkids : ∀ x ∈ l, Fn Tryz.prog X 39 [.v (.agg (cG x))] (.v (.str (bt' (prF x))))) : Fn Tryz.prog X 39 [.v (.agg (cG (.mk k n v a fi l)))] (.v (.str (bt' (prF (.mk k n v a fi l))))) := by
  have hone : ({ data := #[40] } : ByteArray).size = 1 := rfl
  subst hk
  refine fnB_prog (d := 3) tabOk mixed Bld.bldOk Tryz.f39 Tryz.func39 (by kernel_rfl) rfl rfl rfl rfl (by kernel_rfl) (by kernel_rfl) ?_
  conv => whnf
  refine ⟨rfl, fun B => ?_⟩
  conv => whnf
  refine st_cat (by show 1 + n.size ≤ 9223372036854775807; omega) (z := bt' (40 :: bl n)) (cat_bt [40] (bl n)) ?_
  conv => whnf
  refine .inl ⟨rfl, _, _, _, 40 :: bl n, rfl, rfl, rfl, by rw [List.nil_append]; exact bl_of _, by simp, pre_len (r := midB 4 v a fi ++ prFs l ++ [41]) (by rw [prF]; try simp) hb, ?_⟩
  conv => whnf
  have hmid : midB 4 v a fi = 61 :: ((v :: a).flatMap fun s => escF (bl s) ++ [42]) ++ escF (bl fi) := by unfold midB; rw [if_neg (by decide), if_pos rfl]
  refine ⟨rfl, cmp_false (show ¬ (4 : Int) = 7 by decide) ?_⟩
  conv => whnf
  refine ⟨rfl, cmp_true rfl ?_⟩
  conv => whnf
  refine .inl ⟨rfl, _, _, _, 40 :: bl n ++ [61], rfl, rfl, rfl, ?_, by simp, pre_len (r := ((v :: a).flatMap fun s => escF (bl s) ++ [42]) ++ escF (bl fi) ++ prFs l ++ [41]) ?_ hb, ?_⟩
  · rfl
  · rw [prF, hmid]; simp
  conv => whnf
  refine st_app (xs := [[V.str v]]) (by show 1 + (a.map encS).length ≤ 1000000000; rw [List.length_map]; omega) (fun c hc => by obtain ⟨z, _, rfl⟩ := List.mem_map.1 hc; rfl) (zs := (v :: a).map encS) rfl ?_
  conv => whnf
  refine ⟨Nat, fun i => ⟨62, [(1, .ptr 1 0), (3, .v (.raw (.pointer (some ⟨B, 0, none⟩)))), (34, .v (.sl ((v :: a).map encS))), (35, .v (.int .i64 (((v :: a).map encS).length : Nat))), (36, .v (.int .i64 (i : Nat)))], [(1, (cG (.mk 4 n v a fi l)).map .v)], []⟩, fun i => some (40 :: bl n ++ 61 :: ((v :: a).take i).flatMap fun s => escF (bl s) ++ [42]), fun i => i ≤ (v :: a).length, fun i => (v :: a).length - i, ⟨0, [], Nat.zero_le _, rfl, ?_⟩, fun i hi => ?_⟩
  · (focus ((repeat' (first | exact trivial | exact rfl | exact Or.inl rfl | exact Or.inr ⟨rfl, rfl⟩ | refine And.intro ?_ ?_)); done))
  conv => whnf
  refine ⟨rfl, cmp_split (fun h => ?_) (fun h => ?_)⟩
  · rw [List.length_map] at h
    have hil : i < (v :: a).length := by omega
    have hil5 : i < a.length + 1 := by simpa using hil
    conv => whnf
    refine st_idx hil rfl ?_
    have hz : ((v :: a)[i]).size ≤ 60 := by
      rcases List.mem_cons.1 (List.getElem_mem hil) with e | e
      · rw [e]; exact g2
      · exact g4 _ e
    have hts : ((v :: a).take (i + 1)).flatMap (fun s => escF (bl s) ++ [42]) = ((v :: a).take i).flatMap (fun s => escF (bl s) ++ [42]) ++ (escF (bl (v :: a)[i]) ++ [42]) := by
      rw [List.take_succ_eq_append_getElem hil, List.flatMap_append]; simp
    have hsp : ((v :: a).take (i + 1)).flatMap (fun s => escF (bl s) ++ [42]) ++ ((v :: a).drop (i + 1)).flatMap (fun s => escF (bl s) ++ [42]) = (v :: a).flatMap (fun s => escF (bl s) ++ [42]) := by
      rw [← List.flatMap_append, List.take_append_drop]
    generalize (v :: a)[i] = z at *
    conv => whnf
    (refine st_call (escFilter_fn (X := X) z (by omega)) ?_ rfl rfl ?_; (focus ((repeat' (first | exact trivial | exact rfl | exact Or.inl rfl | exact Or.inr ⟨rfl, rfl⟩ | refine And.intro ?_ ?_)); done)); conv => whnf)
    refine st_cat (by have := esc60 hz; rw [← size_bl, bl_of]; show _ + 1 ≤ _; omega) (z := bt' (escF (bl z) ++ [42])) (cat_bt _ [42]) ?_
    conv => whnf
    refine .inl ⟨rfl, _, _, _, 40 :: bl n ++ 61 :: ((v :: a).take (i + 1)).flatMap fun s => escF (bl s) ++ [42], rfl, rfl, rfl, ?_, by simp, pre_len (r := ((v :: a).drop (i + 1)).flatMap (fun s => escF (bl s) ++ [42]) ++ escF (bl fi) ++ prFs l ++ [41]) ?_ hb, ?_⟩
    · rw [hts]
      show (40 :: bl n ++ 61 :: ((v :: a).take i).flatMap fun s => escF (bl s) ++ [42]) ++ bl (bt' (escF (bl z) ++ [42])) = _
      rw [bl_of]; simp
    · rw [prF, hmid, ← hsp]; simp
    conv => whnf
    refine ⟨rfl, st_succ (by omega) ?_⟩
    conv => whnf
    refine ⟨i + 1, [], by dsimp only; omega, rfl, by dsimp only; omega, ?_⟩
    (focus ((repeat' (first | exact trivial | exact rfl | exact Or.inl rfl | exact Or.inr ⟨rfl, rfl⟩ | refine And.intro ?_ ?_)); done))
  rw [List.length_map] at h
  have hie : i = (v :: a).length := by omega
  subst hie
  conv => whnf
  (refine st_call (escFilter_fn (X := X) fi (by omega)) ?_ rfl rfl ?_; (focus ((repeat' (first | exact trivial | exact rfl | exact Or.inl rfl | exact Or.inr ⟨rfl, rfl⟩ | refine And.intro ?_ ?_)); done)); conv => whnf)
  refine .inl ⟨rfl, _, _, _, 40 :: bl n ++ midB 4 v a fi, rfl, rfl, rfl, ?_, by simp, pre_len (r := prFs l ++ [41]) ?_ hb, ?_⟩
  · rw [hmid]
    show (40 :: bl n ++ 61 :: ((v :: a).take (v :: a).length).flatMap fun s => escF (bl s) ++ [42]) ++ bl (bt' (escF (bl fi))) = _
    rw [bl_of, List.take_length]; simp
  · rw [prF]; try simp
  conv => whnf
  refine ⟨Nat, fun i => ⟨62, [(1, .ptr 1 0), (3, .v (.raw (.pointer (some ⟨B, 0, none⟩)))), (50, .v (.sl (l.map cF))), (51, .v (.int .i64 ((l.map cF).length : Nat))), (52, .v (.int .i64 (i : Nat)))], [(1, (cG (.mk 4 n v a fi l)).map .v)], []⟩, fun i => some (40 :: bl n ++ midB 4 v a fi ++ prFs (l.take i)), fun i => i ≤ l.length, fun i => l.length - i, ⟨0, [], Nat.zero_le _, ?_, ?_⟩, fun i hi => ?_⟩
  · show some (40 :: bl n ++ midB 4 v a fi ++ prFs (l.take 0)) = _
    rw [List.take_zero]
    show some (40 :: bl n ++ midB 4 v a fi ++ []) = _
    rw [List.append_nil]
  · (focus ((repeat' (first | exact trivial | exact rfl | exact Or.inl rfl | exact Or.inr ⟨rfl, rfl⟩ | refine And.intro ?_ ?_)); done))
  conv => whnf
  refine ⟨rfl, cmp_split (fun h => ?_) (fun h => ?_)⟩
  · rw [List.length_map] at h
    have hil : i < l.length := by omega
    conv => whnf
    refine st_idxF hil ?_
    conv => whnf
    (refine st_call (hkids l[i] (List.getElem_mem hil)) ?_ rfl rfl ?_; (focus ((repeat' (first | exact trivial | exact rfl | exact Or.inl rfl | exact Or.inr ⟨rfl, rfl⟩ | refine And.intro ?_ ?_)); done)); conv => whnf)
    refine .inl ⟨rfl, _, _, _, 40 :: bl n ++ midB 4 v a fi ++ prFs (l.take (i + 1)), rfl, rfl, rfl, ?_, by simp, pre_len (r := prFs (l.drop (i + 1)) ++ [41]) ?_ hb, ?_⟩
    · rw [prFs_take l i hil, ← List.append_assoc]; congr 1
    · rw [prF, List.append_assoc (40 :: bl n ++ midB 4 v a fi), ← List.append_assoc (prFs (l.take (i + 1))), prFs_split]; simp
    conv => whnf
    refine ⟨rfl, st_succ (by omega) ?_⟩
    conv => whnf
    refine ⟨i + 1, [], by dsimp only; omega, rfl, by dsimp only; omega, ?_⟩
    (focus ((repeat' (first | exact trivial | exact rfl | exact Or.inl rfl | exact Or.inr ⟨rfl, rfl⟩ | refine And.intro ?_ ?_)); done))
  · rw [List.length_map] at h
    have hie : i = l.length := by omega
    subst hie
    conv => whnf
    rw [List.take_length]
    refine .inr ⟨rfl, _, rfl, rfl, ?_⟩
    conv => whnf
    refine st_cat ?_ (z := bt' (prF (.mk 4 n v a fi l))) ?_ ?_
    · have h1 := pre_len (l := 40 :: bl n ++ midB 4 v a fi ++ prFs l) (r := [41]) (by rw [prF]; try simp) hb
      have h2 : (⟨(40 :: bl n ++ midB 4 v a fi ++ prFs l).toArray⟩ : ByteArray).size = (40 :: bl n ++ midB 4 v a fi ++ prFs l).length := (size_bl _).symm.trans (congrArg List.length (bl_of _))
      rw [h2]
      have h3 : ({ data := #[41] } : ByteArray).size = 1 := rfl
      omega
    · have := cat_bt (40 :: bl n ++ midB 4 v a fi ++ prFs l) [41]
      rw [prF]
      refine this.trans (congrArg bt' ?_)
      simp
    conv => whnf
    exact ⟨.inl rfl, rfl⟩
set_option maxHeartbeats 8000000 in
theorem printed_c (k : Int) (n v : ByteArray) (a : List ByteArray) (fi : ByteArray) (l : List Flt) (hb : (prF (.mk k n v a fi l)).length ≤ 100000000) (g1 : n.size ≤ 30) (g2 : v.size ≤ 60) (g3 : fi.size ≤ 60) (g4 : ∀ s ∈ a, s.size ≤ 60) (g5 : a.length ≤ 4) (g6 : l.length ≤ 8) (h7 : ¬ k = 7) (h4 : ¬ k = 4) (hk : k = 0 ∨ k = 1 ∨ k = 2 ∨ k = 3 ∨ k = 5 ∨ k = 6 ∨ k = 8) (hkids : ∀ x ∈ l, Fn Tryz.prog X 39 [.v (.agg (cG x))] (.v (.str (bt' (prF x))))) : Fn Tryz.prog X 39 [.v (.agg (cG (.mk k n v a fi l)))] (.v (.str (bt' (prF (.mk k n v a fi l))))) := by
  have hone : ({ data := #[40] } : ByteArray).size = 1 := rfl
  refine fnB_prog (d := 3) tabOk mixed Bld.bldOk Tryz.f39 Tryz.func39 (by kernel_rfl) rfl rfl rfl rfl (by kernel_rfl) (by kernel_rfl) ?_
  conv => whnf
  refine ⟨rfl, fun B => ?_⟩
  conv => whnf
  refine st_cat (by show 1 + n.size ≤ 9223372036854775807; omega) (z := bt' (40 :: bl n)) (cat_bt [40] (bl n)) ?_
  conv => whnf
  refine .inl ⟨rfl, _, _, _, 40 :: bl n, rfl, rfl, rfl, by rw [List.nil_append]; exact bl_of _, by simp, pre_len (r := midB k v a fi ++ prFs l ++ [41]) (by rw [prF]; try simp) hb, ?_⟩
  conv => whnf
  have hmid : midB k v a fi = signB k ++ escF (bl v) := by unfold midB; rw [if_neg h7, if_neg h4]
  have hget : mget (.int .i64 k) signKs signVs = some (.str (bt' (signB k))) := by rw [sign_get, if_pos hk]
  have hsg : (signB k).length ≤ 2 := by
    unfold signB
    repeat (split; · decide)
    decide
  refine ⟨rfl, cmp_false h7 ?_⟩
  conv => whnf
  refine ⟨rfl, cmp_false h4 ?_⟩
  conv => whnf
  have hcs : (bt' (signB k)).size + (bt' (escF (bl v))).size ≤ 9223372036854775807 := by
    have := esc60 g2
    rw [← size_bl, ← size_bl, bl_of, bl_of]; omega
  (refine ⟨(.one 1 (.one 4 (.or (.or (.one 0 (.or (.one 2 (.or (.one 3 (.one 5 (.one 6 (.one 7 .nil)))) (.one 5 (.or (.one 3 (.one 6 (.one 7 .nil))) (.one 6 (.one 3 (.one 7 .nil))))))) (.one 5 (.or (.one 2 (.or (.one 3 (.one 6 (.one 7 .nil))) (.one 6 (.one 3 (.one 7 .nil))))) (.one 6 (.one 2 (.one 3 (.one 7 .nil)))))))) (.one 2 (.or (.one 0 (.or (.one 3 (.one 5 (.one 6 (.one 7 .nil)))) (.one 5 (.or (.one 3 (.one 6 (.one 7 .nil))) (.one 6 (.one 3 (.one 7 .nil))))))) (.one 5 (.one 0 (.or (.one 3 (.one 6 (.one 7 .nil))) (.one 6 (.one 3 (.one 7 .nil))))))))) (.one 5 (.or (.one 0 (.or (.one 2 (.or (.one 3 (.one 6 (.one 7 .nil))) (.one 6 (.one 3 (.one 7 .nil))))) (.one 6 (.one 2 (.one 3 (.one 7 .nil)))))) (.one 2 (.one 0 (.or (.one 3 (.one 6 (.one 7 .nil))) (.one 6 (.one 3 (.one 7 .nil))))))))))), by kernel_rfl, ?_, ?_, ?_⟩; rotate_left; (focus ((conv => whnf); (repeat' (first | (((with_reducible apply st_call (signs_fn (X := X))); (focus ((repeat' (first | exact trivial | exact rfl | exact Or.inl rfl | exact Or.inr ⟨rfl, rfl⟩ | refine And.intro ?_ ?_)); done)); (focus (exact rfl)); (focus (exact rfl))) <;> (conv => whnf)) | (((with_reducible apply st_call (escFilter_fn (X := X) v (by omega))); (focus ((repeat' (first | exact trivial | exact rfl | exact Or.inl rfl | exact Or.inr ⟨rfl, rfl⟩ | refine And.intro ?_ ?_)); done)); (focus (exact rfl)); (focus (exact rfl))) <;> (conv => whnf)) | ((refine ⟨_, hget, ?_⟩) <;> (conv => whnf)) | ((refine st_cat hcs (z := bt' (signB k ++ escF (bl v))) (cat_bt _ _) ?_) <;> (conv => whnf)) | ((refine And.intro ?_ ?_) <;> (conv => whnf)) | (exact St.le_refl _) | (refine ⟨rfl, ?_, ?_, ?_⟩ <;> (repeat' (first | exact trivial | (refine ⟨rfl, ?_⟩))); done) | fail))))); conv => whnf
  refine .inl ⟨rfl, _, _, _, 40 :: bl n ++ midB k v a fi, rfl, rfl, rfl, ?_, by simp, pre_len (r := prFs l ++ [41]) ?_ hb, ?_⟩
  · rw [hmid]
    show 40 :: bl n ++ bl (bt' (signB k ++ escF (bl v))) = _
    rw [bl_of]
  · rw [prF]; try simp
  conv => whnf
  refine ⟨Nat, fun i => ⟨62, [(1, .ptr 1 0), (3, .v (.raw (.pointer (some ⟨B, 0, none⟩)))), (50, .v (.sl (l.map cF))), (51, .v (.int .i64 ((l.map cF).length : Nat))), (52, .v (.int .i64 (i : Nat)))], [(1, (cG (.mk k n v a fi l)).map .v)], []⟩, fun i => some (40 :: bl n ++ midB k v a fi ++ prFs (l.take i)), fun i => i ≤ l.length, fun i => l.length - i, ⟨0, [], Nat.zero_le _, ?_, ?_⟩, fun i hi => ?_⟩
  · show some (40 :: bl n ++ midB k v a fi ++ prFs (l.take 0)) = _
    rw [List.take_zero]
    show some (40 :: bl n ++ midB k v a fi ++ []) = _
    rw [List.append_nil]
  · (focus ((repeat' (first | exact trivial | exact rfl | exact Or.inl rfl | exact Or.inr ⟨rfl, rfl⟩ | refine And.intro ?_ ?_)); done))
  conv => whnf
  refine ⟨rfl, cmp_split (fun h => ?_) (fun h => ?_)⟩
  · rw [List.length_map] at h
    have hil : i < l.length := by omega
    conv => whnf
    refine st_idxF hil ?_
    conv => whnf
    (refine st_call (hkids l[i] (List.getElem_mem hil)) ?_ rfl rfl ?_; (focus ((repeat' (first | exact trivial | exact rfl | exact Or.inl rfl | exact Or.inr ⟨rfl, rfl⟩ | refine And.intro ?_ ?_)); done)); conv => whnf)
    refine .inl ⟨rfl, _, _, _, 40 :: bl n ++ midB k v a fi ++ prFs (l.take (i + 1)), rfl, rfl, rfl, ?_, by simp, pre_len (r := prFs (l.drop (i + 1)) ++ [41]) ?_ hb, ?_⟩
    · rw [prFs_take l i hil, ← List.append_assoc]; congr 1
    · rw [prF, List.append_assoc (40 :: bl n ++ midB k v a fi), ← List.append_assoc (prFs (l.take (i + 1))), prFs_split]; simp
    conv => whnf
    refine ⟨rfl, st_succ (by omega) ?_⟩
    conv => whnf
    refine ⟨i + 1, [], by dsimp only; omega, rfl, by dsimp only; omega, ?_⟩
    (focus ((repeat' (first | exact trivial | exact rfl | exact Or.inl rfl | exact Or.inr ⟨rfl, rfl⟩ | refine And.intro ?_ ?_)); done))
  · rw [List.length_map] at h
    have hie : i = l.length := by omega
    subst hie
    conv => whnf
    rw [List.take_length]
    refine .inr ⟨rfl, _, rfl, rfl, ?_⟩
    conv => whnf
    refine st_cat ?_ (z := bt' (prF (.mk k n v a fi l))) ?_ ?_
    · have h1 := pre_len (l := 40 :: bl n ++ midB k v a fi ++ prFs l) (r := [41]) (by rw [prF]; try simp) hb
      have h2 : (⟨(40 :: bl n ++ midB k v a fi ++ prFs l).toArray⟩ : ByteArray).size = (40 :: bl n ++ midB k v a fi ++ prFs l).length := (size_bl _).symm.trans (congrArg List.length (bl_of _))
      rw [h2]
      have h3 : ({ data := #[41] } : ByteArray).size = 1 := rfl
      omega
    · have := cat_bt (40 :: bl n ++ midB k v a fi ++ prFs l) [41]
      rw [prF]
      refine this.trans (congrArg bt' ?_)
      simp
    conv => whnf
    exact ⟨.inl rfl, rfl⟩
mutual
theorem printed_fn : ∀ (f : Flt) (d : Nat), 1 ≤ d → rightF d f = true → Fn Tryz.prog X 39 [.v (.agg (cG f))] (.v (.str (bt' (prF f))))
  | .mk k n v a fi l, d, hd, h => by
    have hb := pr_bound hd h
    obtain ⟨_, h1, h2⟩ := right_one h
    obtain ⟨g1, g2, g3, g4, g5, g6, g7, g8⟩ := one_short h1
    have hkids := printed_fns l (d + 1) (by omega) h2
    by_cases h7 : k = 7
    · exact printed_a k n v a fi l hb g1 g2 g3 g4 g5 g6 h7 hkids
    by_cases h4 : k = 4
    · exact printed_b k n v a fi l hb g1 g2 g3 g4 g5 g6 h4 hkids
    exact printed_c k n v a fi l hb g1 g2 g3 g4 g5 g6 h7 h4 (by omega) hkids
theorem printed_fns : ∀ (l : List Flt) (d : Nat), 1 ≤ d → rightFs d l = true → ∀ x ∈ l, Fn Tryz.prog X 39 [.v (.agg (cG x))] (.v (.str (bt' (prF x))))
  | [], _, _, _, x, hx => by cases hx
  | y :: r, d, hd, h, x, hx => by
    rw [rightFs, Bool.and_eq_true] at h
    have h1 := printed_fn y d hd h.1
    have h2 := printed_fns r d hd h.2
    rcases List.mem_cons.1 hx with rfl | hx
    · exact h1
    · exact h2 x hx
end
end Go.Proofs.YtiafggoaedifdaaGreatDoor.Fi
/- filt, walked: Print. Conditions: texts of at most 10^8 bytes. -/
namespace Go.Proofs.YtiafggoaedifdaaGreatDoor.Fi
open Go.RowKit Go.Shelf Go.Lib Fl
set_option linter.unusedVariables false
variable (p : Nat → Addr)
def prR (f : Flt) : T := if rightF 1 f = true then .tup [.v (.str (bt' (prF f))), .v (.int .i64 0)] else .tup [.v (.str (bt' [])), .v (.int .i64 80)]
theorem print_fn (f : Flt) (hf : midF f) (hN : (preF 1 f).length ≤ 900000000) : Fn Tryz.prog (envX p) 19 [.v (.agg (cG f))] (prR f) := by
  refine fn_prog tabOk mixed Tryz.f19 Tryz.func19 (by kernel_rfl) (by kernel_rfl) ?_
  conv => whnf
  refine st_callB (right_fn p f hf hN) ⟨.inl rfl, trivial⟩ rfl (fun hR => ?_) (fun hR => ?_)
  · conv => whnf
    (refine st_call (printed_fn (X := envX p) f 1 (Nat.le_refl _) hR) ?_ rfl rfl ?_; (focus ((repeat' (first | exact trivial | exact rfl | exact Or.inl rfl | exact Or.inr ⟨rfl, rfl⟩ | refine And.intro ?_ ?_)); done)); conv => whnf)
    unfold prR
    rw [if_pos hR]
    exact ⟨⟨.inl rfl, .inl rfl, trivial⟩, rfl⟩
  · conv => whnf
    (refine st_call (told_wrong_fn p 0) ?_ rfl rfl ?_; (focus ((repeat' (first | exact trivial | exact rfl | exact Or.inl rfl | exact Or.inr ⟨rfl, rfl⟩ | refine And.intro ?_ ?_)); done)); conv => whnf)
    unfold prR
    rw [if_neg (by rw [hR]; decide)]
    exact ⟨⟨.inl rfl, .inl rfl, trivial⟩, rfl⟩
end Go.Proofs.YtiafggoaedifdaaGreatDoor.Fi
/- filt, walked: values told as zero values; right filters are not too large. -/
namespace Go.Proofs.YtiafggoaedifdaaGreatDoor.Fi
open Go.RowKit Go.Shelf Go.Lib Fl
set_option linter.unusedVariables false
mutual
def nzd : V → V
  | .nils => .sl []
  | .agg l => .agg (nzds l)
  | .sl xs => .sl (nzdss xs)
  | .int k n => .int k n
  | .bool b => .bool b
  | .str s => .str s
  | .nili => .nili
  | .ifc t x => .ifc t x
  | .raw v => .raw v
  | .mp ks vs => .mp ks vs
def nzds : List V → List V
  | [] => []
  | x :: r => nzd x :: nzds r
def nzdss : List (List V) → List (List V)
  | [] => []
  | c :: r => nzds c :: nzdss r
end
theorem nzd_one : ∀ x : V, x.one = true → (nzd x).one = true := fun x h => by cases x <;> first | exact h | rfl
theorem nzds_len : ∀ l : List V, (nzds l).length = l.length
  | [] => rfl
  | x :: r => by rw [nzds, List.length_cons, List.length_cons, nzds_len r]
theorem nzdss_len : ∀ l : List (List V), (nzdss l).length = l.length
  | [] => rfl
  | x :: r => by rw [nzdss, List.length_cons, List.length_cons, nzdss_len r]
mutual
theorem nzd_rep {w : World} {L : Lv} : ∀ (x : V) (v : Value), Rep w L x v → Rep w L (nzd x) v
  | .nils, v, h => ⟨none, 0, h, Nat.le_refl _, fun e => absurd rfl e⟩
  | .agg l, v, ⟨cs, e, h⟩ => ⟨cs, e, nzds_rep l cs.toList h⟩
  | .sl xs, v, ⟨A, c, e, h1, h2⟩ => ⟨A, c, by rw [nzdss_len]; exact e, by rw [nzdss_len]; exact h1, fun hn => by
      have hx : xs ≠ [] := by rintro rfl; exact hn rfl
      obtain ⟨b, o, k, e1, h3⟩ := h2 hx
      exact ⟨b, o, k, e1, nzdss_rep b k xs o h3⟩⟩
  | .int _ _, _, h => h
  | .bool _, _, h => h
  | .str _, _, h => h
  | .nili, _, h => h
  | .ifc _ _, _, h => h
  | .raw _, _, h => h
  | .mp _ _, _, h => h
theorem nzds_rep {w : World} {L : Lv} : ∀ (l : List V) (cs : List Value), RepL w L l cs → RepL w L (nzds l) cs
  | [], _, h => h
  | x :: r, _, ⟨u, us, e, h1, h2, h3⟩ => ⟨u, us, e, nzd_one x h1, nzd_rep x u h2, nzds_rep r us h3⟩
theorem nzdc_rep {w : World} {L : Lv} (b : Nat) : ∀ (l : List V) (o : Nat), RepC w L b o l → RepC w L b o (nzds l)
  | [], _, _ => trivial
  | x :: r, o, ⟨⟨u, h1, h2, h3, h4⟩, h5⟩ => ⟨⟨u, h1, h2, nzd_one x h3, nzd_rep x u h4⟩, nzdc_rep b r (o + 1) h5⟩
theorem nzdss_rep {w : World} {L : Lv} (b e : Nat) : ∀ (xs : List (List V)) (o : Nat), RepE w L b e o xs → RepE w L b e o (nzdss xs)
  | [], _, _ => trivial
  | c :: r, o, ⟨h1, h2, h3⟩ => ⟨by rw [nzds_len]; exact h1, nzdc_rep b c o h2, nzdss_rep b e r (o + e) h3⟩
end
/-- a contract, of what comes in otherwise -/
theorem Fn.arg1 {P : Program} {X : En} {f : FuncId} {x x' : V} {ts : List T} {r : T} (h : Fn P X f (.v x :: ts) r) (hx : ∀ w L v, Rep w L x' v → Rep w L x v) : Fn P X f (.v x' :: ts) r :=
  ⟨h.1, fun w L vs hE hL ⟨v, us, e, h1, h2⟩ => h.2 w L vs hE hL ⟨v, us, e, hx w L v h1, h2⟩⟩
theorem deep {x x' : V} (h : nzd x' = x) : ∀ w L v, Rep w L x' v → Rep w L x v := fun w L v hv => h ▸ nzd_rep x' v hv
mutual
theorem mid_right : ∀ (d : Nat) (f : Flt), rightF d f = true → midF f
  | d, .mk k n v a fi l, h => by
    obtain ⟨_, h1, h2⟩ := right_one h
    obtain ⟨g1, g2, g3, g4, g5, g6, _⟩ := one_short h1
    exact ⟨by omega, by omega, by omega, by omega, by omega, mids_right (d + 1) l h2⟩
theorem mids_right : ∀ (d : Nat) (l : List Flt), rightFs d l = true → midFs l
  | _, [], _ => trivial
  | d, x :: r, h => by
    rw [rightFs, Bool.and_eq_true] at h
    exact ⟨mid_right d x h.1, mids_right d r h.2⟩
end
mutual
/-- a right filter has not many in it -/
theorem cnt_right : ∀ (d m : Nat) (f : Flt), d + m = 7 → rightF d f = true → (preF d f).length ≤ lb m
  | d, 0, .mk k n v a f l, hd, h => by
    rw [rightF, Bool.and_eq_true] at h
    have := of_decide_eq_true h.1
    omega
  | d, m + 1, .mk k n v a f l, hd, h => by
    obtain ⟨_, h1, h2⟩ := right_one h
    obtain ⟨g1, g2, g3, g4, g5, g6, _⟩ := one_short h1
    have h3 := cnts_right (d + 1) m l (by omega) h2
    have h5 : l.length * lb m ≤ 8 * lb m := Nat.mul_le_mul_right _ g6
    rw [preF, List.length_cons, lb]
    omega
theorem cnts_right : ∀ (d m : Nat) (l : List Flt), d + m = 7 → rightFs d l = true → (preFs d l).length ≤ l.length * lb m
  | _, _, [], _, _ => Nat.zero_le _
  | d, m, x :: r, hd, h => by
    rw [rightFs, Bool.and_eq_true] at h
    have h1 := cnt_right d m x hd h.1
    have h2 := cnts_right d m r hd h.2
    rw [preFs, List.length_append, List.length_cons, Nat.succ_mul]
    omega
end
theorem cnt_bound {f : Flt} (h : rightF 1 f = true) : (preF 1 f).length ≤ 900000000 := Nat.le_trans (cnt_right 1 6 f rfl h) (by decide)
end Go.Proofs.YtiafggoaedifdaaGreatDoor.Fi
/- filt, walked: sets of filters, read: the closure at the end. Conditions: texts of at most 10^6 bytes. -/
namespace Go.Proofs.YtiafggoaedifdaaGreatDoor.Fi
open Go.RowKit Go.Shelf Go.Lib Fl
set_option linter.unusedVariables false
theorem at_one (s : ByteArray) (a : Nat) (c : UInt8) : atB s a { data := #[c] } = decide (((bl s).drop a).head? = some c) := by
  have hl : (s.extract a s.size).data.toList = (bl s).drop a := by
    rw [Lib.extract_data, List.take_of_length_le (by rw [List.length_drop]; have := Txt.size_list s; unfold bl at *; omega)]
  unfold atB preB
  generalize s.extract a s.size = z at hl
  rw [← hl]
  have hz := Txt.size_list z
  cases hd : z.data.toList with
  | nil =>
    rw [hd] at hz
    have h0 : z.size = 0 := hz.symm
    rw [decide_eq_false (show ¬ ({ data := #[c] } : ByteArray).size ≤ z.size by rw [h0]; exact Nat.not_succ_le_zero 0)]
    rfl
  | cons x t =>
    rw [hd] at hz
    have h1 : 1 ≤ z.size := by rw [← hz]; simp
    rw [decide_eq_true (show ({ data := #[c] } : ByteArray).size ≤ z.size from h1), Bool.true_and, List.head?_cons]
    apply decide_eq_decide.2
    have e1 : (z.extract 0 ({ data := #[c] } : ByteArray).size).data.toList = [x] := by
      rw [Lib.extract_data, hd]; rfl
    constructor
    · intro h
      rw [h] at e1
      have : c = x := by simpa using e1
      rw [this]
    · intro h
      injection h with h
      apply ByteArray.ext
      apply Array.toList_inj.1
      rw [e1, h]
variable {X : En}
/-- a set's end: the closure, where something was wrong already -/
theorem end_err (s : ByteArray) (a : Nat) (i : Int) : FnD Tryz.prog X 123 [[.v (fErr i)], [.ptr 2 0], rdC s a] [.ptr 0 0, .ptr 1 0] [[.v (fErr i)], [.ptr 2 0], rdC s a] := by
  refine fnD_prog tabOk mixed Tryz.f123 Tryz.func123 (by kernel_rfl) (by kernel_rfl) (by kernel_rfl) (by kernel_rfl) rfl rfl rfl rfl ?_
  conv => whnf
  exact ⟨⟨.inl rfl, trivial⟩, ⟨⟨rfl, rfl⟩, trivial⟩, ⟨.inl rfl, .inl rfl, trivial⟩, trivial⟩
theorem end_ok (s : ByteArray) (hs : s.size ≤ 100000000) (a : Nat) (ha : a ≤ s.size) : FnD Tryz.prog X 123 [[.v .nili], [.ptr 2 0], rdC s a] [.ptr 0 0, .ptr 1 0] (if ((bl s).drop a).head? = some 41 then [[.v .nili], [.ptr 2 0], rdC s (a + 1)] else [[.v (fErr (a : Nat))], [.ptr 2 0], rdC s a]) := by
  have ht := takes_fn (X := X) s hs a ha { data := #[41] }
  rw [at_one] at ht
  by_cases hh : ((bl s).drop a).head? = some 41
  · rw [if_pos hh]
    rw [decide_eq_true hh, if_pos rfl] at ht
    refine fnD_prog tabOk mixed Tryz.f123 Tryz.func123 (by kernel_rfl) (by kernel_rfl) (by kernel_rfl) (by kernel_rfl) rfl rfl rfl rfl ?_
    conv => whnf
    (refine st_callM [20] (ht) rfl ?_ ?_ rfl ?_; (focus ((repeat' (first | exact trivial | exact rfl | exact Or.inl rfl | exact Or.inr ⟨rfl, rfl⟩ | refine And.intro ?_ ?_)); done)); (focus ((repeat' (first | exact trivial | exact rfl | exact Or.inl rfl | exact Or.inr ⟨rfl, rfl⟩ | refine And.intro ?_ ?_)); done)); conv => whnf)
    exact ⟨⟨.inl rfl, trivial⟩, ⟨⟨rfl, rfl⟩, trivial⟩, ⟨.inl rfl, .inl rfl, trivial⟩, trivial⟩
  · rw [if_neg hh]
    rw [decide_eq_false hh, if_neg (by decide)] at ht
    refine fnD_prog tabOk mixed Tryz.f123 Tryz.func123 (by kernel_rfl) (by kernel_rfl) (by kernel_rfl) (by kernel_rfl) rfl rfl rfl rfl ?_
    conv => whnf
    (refine st_callM [20] (ht) rfl ?_ ?_ rfl ?_; (focus ((repeat' (first | exact trivial | exact rfl | exact Or.inl rfl | exact Or.inr ⟨rfl, rfl⟩ | refine And.intro ?_ ?_)); done)); (focus ((repeat' (first | exact trivial | exact rfl | exact Or.inl rfl | exact Or.inr ⟨rfl, rfl⟩ | refine And.intro ?_ ?_)); done)); conv => whnf)
    exact ⟨⟨.inl rfl, trivial⟩, ⟨⟨rfl, rfl⟩, trivial⟩, ⟨.inl rfl, .inl rfl, trivial⟩, trivial⟩
end Go.Proofs.YtiafggoaedifdaaGreatDoor.Fi
/- A reader of the package esc: a struct whose last field is a strings.Builder: its methods there. Conditions: the shape of memory that each theorem names. -/
namespace Go.Proofs.YtiafggoaedifdaaGreatDoor.Esc
open Go.RowKit
set_option linter.unusedVariables false
/-- a reader in block B: its text, its place, of a name?, what it has read -/
def RD (w : World) (B : Nat) (s : ByteArray) (at_ : Nat) (nm : Bool) (l : List UInt8) : Prop :=
  ∃ p v, w.heap[B]? = some (.cells #[.string s, .int .i64 at_, .bool nm, p, v] 244 (0, 0)) ∧ (p = .pointer none ∨ p = .pointer (some ⟨B, 3, none⟩)) ∧ w.ownsRow (B + 1) 5 1 v l.length (Lib.byteCells l) ∧ (l = [] → v = .slice none 0 0)
theorem RD.below {w w' : World} {B : Nat} {s : ByteArray} {at_ : Nat} {nm : Bool} {l : List UInt8} (h : RD w B s at_ nm l) (hb : Below w.heap.size w w') : RD w' B s at_ nm l := by
  obtain ⟨p, v, h1, h2, h3, h4⟩ := h
  exact ⟨p, v, blk_below h1 hb, h2, ownsRow_upd h3 (Upd.of_below (S := fun _ => False) hb) (fun _ _ h => h), h4⟩
theorem bldInfo : (Tryz.prog.info? 90).map (·.size) = some 2 := by kernel_rfl
theorem bldLies : liesAt Tryz.prog Tryz.prog.depth 244 (5 / Tryz.prog.cellsOf 244) 3 90 1 = true := by kernel_rfl
set_option maxHeartbeats 100000000 in
set_option maxRecDepth 100000 in
theorem check_used (B : Nat) (w : World) (h0 : w.cell? ⟨B, 3, none⟩ = some (.pointer (some ⟨B, 3, none⟩))) :
    Calls Tryz.prog 93 #[.pointer (some ⟨B, 3, none⟩)] w fun e w' => e = .returned (.tuple #[]) ∧ w = w' := by
  obtain ⟨j, hj, _⟩ := Option.map_eq_some_iff.1 bldInfo
  have hne := Lib.run_neq_ptr_same (P := Tryz.prog) w ⟨B, 3, none⟩ Tryz.underlying88 hj
  go_enter Tryz.func93, Tryz.ntmps93
  go_wp2
  go_end0
  exact ⟨rfl, rfl⟩
set_option maxHeartbeats 100000000 in
set_option maxRecDepth 100000 in
theorem check_fresh (B : Nat) (w : World) (h0 : w.cell? ⟨B, 3, none⟩ = some (.pointer none)) (hsh : w.shape? B = some (244, 5)) (hfz : w.frozen? ⟨B, 3, none⟩ = false) :
    Calls Tryz.prog 93 #[.pointer (some ⟨B, 3, none⟩)] w fun e w' => e = .returned (.tuple #[]) ∧ w.setCell ⟨B, 3, none⟩ (.pointer (some ⟨B, 3, none⟩)) = w' := by
  obtain ⟨j, hj, hjs⟩ := Option.map_eq_some_iff.1 bldInfo
  have h1 := Lib.run_to_unsafe (P := Tryz.prog) w ⟨B, 3, none⟩ Tryz.underlying88 Tryz.underlying133 hj (by rw [hjs]; decide) hsh (show 3 < 5 by decide)
  have h2 := Lib.run_from_unsafe (P := Tryz.prog) w ⟨B, 3, none⟩ Tryz.underlying133 Tryz.underlying88 hj hsh bldLies
  have h3 := @run_callFunc_extern Tryz.prog 121 _ Extern.AbiNoEscape.same Tryz.func121 (by kernel_rfl) (by kernel_rfl) (by kernel_rfl) (by kernel_rfl)
  have h4 := fun x => Lib.run_noEscape (P := Tryz.prog) w x
  go_enter Tryz.func93, Tryz.ntmps93
  go_wp2
  go_end0
  exact ⟨rfl, rfl⟩
/-- a reader whose builder has been written -/
def RU (w : World) (B : Nat) (s : ByteArray) (at_ : Nat) (nm : Bool) (v : Value) (l : List UInt8) : Prop :=
  w.heap[B]? = some (.cells #[.string s, .int .i64 at_, .bool nm, .pointer (some ⟨B, 3, none⟩), v] 244 (0, 0)) ∧ w.ownsRow (B + 1) 5 1 v l.length (Lib.byteCells l)
theorem check_calls {w : World} {B : Nat} {s : ByteArray} {at_ : Nat} {nm : Bool} {l : List UInt8} (h : RD w B s at_ nm l) :
    Calls Tryz.prog 93 #[.pointer (some ⟨B, 3, none⟩)] w fun e w' => e = .returned (.tuple #[]) ∧ (∃ v, RU w' B s at_ nm v l) ∧ Below B w w' ∧ w.heap.size ≤ w'.heap.size := by
  obtain ⟨p, v, h1, h2, h3, _⟩ := h
  rcases h2 with rfl | rfl
  · refine (check_fresh B w (cel h1 3 rfl) (by simp [World.shape?, h1]) (frz h1 3)).mono ?_
    rintro e w' ⟨rfl, rfl⟩
    exact ⟨rfl, ⟨v, set_blk h1 3 _, ownsRow_upd h3 (Upd.of_grown (S := fun k => k = B) (set_grown w B 3 _) rfl) (fun k hk => by have := (h3.lt k hk).1; omega)⟩, (Below.refl B w).setCell (p := ⟨B, 3, none⟩) (Nat.le_refl _) _, by simp [World.setCell]⟩
  · refine (check_used B w (cel h1 3 rfl)).mono ?_
    rintro e w' ⟨rfl, rfl⟩
    exact ⟨rfl, ⟨v, h1, h3⟩, Below.refl _ _, Nat.le_refl _⟩
theorem ownsRow_slice {W : World} {base : Nat} {e : TypeId} {size : Nat} {v : Value} {k : Nat} {xs : List Value} (h : W.ownsRow base e size v k xs) : ∃ A c, v = .slice A k c := by
  rcases h.2 with ⟨rfl, rfl⟩ | ⟨g, cap, _, rfl, _⟩
  · exact ⟨none, 0, rfl⟩
  · exact ⟨_, cap, rfl⟩
theorem bytesInfo : (Tryz.prog.info? 5).map (fun i => (i.zero, i.size, i.bytes)) = some (some (.int .u8 0), 1, 1) := by kernel_rfl
theorem put_row {w6 : World} {B : Nat} {s : ByteArray} {at_ : Nat} {nm : Bool} {v v' : Value} {l : List UInt8} (hb : w6.heap[B]? = some (.cells #[.string s, .int .i64 at_, .bool nm, .pointer (some ⟨B, 3, none⟩), v] 244 (0, 0))) (h : w6.ownsRow (B + 1) 5 1 v' l.length (Lib.byteCells l)) (hne : l ≠ []) : RD (w6.setCell ⟨B, 4, none⟩ v') B s at_ nm l :=
  ⟨_, _, set_blk hb 4 v', .inr rfl, ownsRow_upd h (Upd.of_grown (S := fun k => k = B) (set_grown w6 B 4 v') rfl) (fun k hk => by have := (h.lt k hk).1; omega), fun h => absurd h hne⟩
set_option maxHeartbeats 2000000 in
set_option maxRecDepth 100000 in
theorem wbyte {w : World} {B : Nat} {s : ByteArray} {at_ : Nat} {nm : Bool} {l : List UInt8} (h : RD w B s at_ nm l) (hB : B < w.heap.size) (hl : l.length ≤ 1000000000) (b : UInt8) :
    Calls Tryz.prog 79 #[.pointer (some ⟨B, 3, none⟩), .int .u8 b.toNat] w fun e w' => e = .returned .nilIface ∧ RD w' B s at_ nm (l ++ [b]) ∧ Below B w w' := by
  obtain ⟨i0, hi, hz0, hz1, hz2⟩ := info_parts bytesInfo
  go_enter Tryz.func79, Tryz.ntmps79
  go_wp2_with fail
  refine (check_calls h).mono ?_
  rintro e w1 ⟨rfl, ⟨v, h1, h2⟩, hb, hsz⟩
  have c3 : w1.cell? ⟨B, 3, none⟩ = some (.pointer (some ⟨B, 3, none⟩)) := cel h1 3 rfl
  have c4 : w1.cell? ⟨B, 4, none⟩ = some v := cel h1 4 rfl
  have hB1 : B < w1.heap.size := Nat.lt_of_lt_of_le hB hsz
  have H1 := Aside.mk h1
  have H2 := Aside.mk h2
  have HB := Aside.mk hb
  clear h1 h2 hb h
  go_wp2_with (at_builtin; refine wpList_append_own _ rfl _ _ 73 rfl (B + 1) 5 i0 (.int .u8 0) 1 1 Tryz.underlying73 hi hz0 hz1 hz2 rfl (by decide) _ _ _ rfl (H2.out.alloc _) ⟨w1.heap.size, 0, none⟩ 1 1 [.int .u8 b.toNat] rfl rfl (cell_one_new _ _ _) (by simp [Value.oneCell']) (by unfold maxLen; omega) (by omega) (by simp; omega) ?_)
  intro v' w6 hown hgrow _
  obtain ⟨g', cap', rfl⟩ := ownsRow_succ hown
  have hne : v.ownBlock ≠ some B := fun e => by have := (H2.out.lt B e).1; omega
  have hb6 := blk_grown (blk_below H1.out (below_new w1 (.cells #[.int .u8 b.toNat] 5))) hgrow (fun e => hne e.symm)
  have d4 : w6.cell? ⟨B, 4, none⟩ = some v := cel hb6 4 rfl
  have f4 := frz hb6 4
  have HO := Aside.mk hown
  have HG := Aside.mk hgrow
  have HB6 := Aside.mk hb6
  clear hown hgrow hb6 c3 c4 hi
  go_wp2
  go_ret
  refine ⟨rfl, put_row (l := l ++ [b]) HB6.out (by have := HO.out; simpa [Lib.byteCells] using this) (by simp), ?_⟩
  exact ((HB.out.trans ((below_new w1 _).mono (by omega))).grown HG.out (by simp; omega) (fun k hk => by have := (H2.out.lt k hk).1; omega)).setCell (p := ⟨B, 4, none⟩) (Nat.le_refl _) _
set_option maxHeartbeats 2000000 in
set_option maxRecDepth 100000 in
theorem wstring {w : World} {B : Nat} {s : ByteArray} {at_ : Nat} {nm : Bool} {l : List UInt8} (h : RD w B s at_ nm l) (hB : B < w.heap.size) (t : List UInt8) (ht : t ≠ []) (hl : l.length + t.length ≤ 1000000000) :
    Calls Tryz.prog 63 #[.pointer (some ⟨B, 3, none⟩), .string ⟨t.toArray⟩] w fun e w' => (∃ v, e = .returned v) ∧ RD w' B s at_ nm (l ++ t) ∧ Below B w w' := by
  obtain ⟨i0, hi, hz0, hz1, hz2⟩ := info_parts bytesInfo
  go_enter Tryz.func63, Tryz.ntmps63
  go_wp2_with fail
  refine (check_calls h).mono ?_
  rintro e w1 ⟨rfl, ⟨v, h1, h2⟩, hb, hsz⟩
  have c3 : w1.cell? ⟨B, 3, none⟩ = some (.pointer (some ⟨B, 3, none⟩)) := cel h1 3 rfl
  have c4 : w1.cell? ⟨B, 4, none⟩ = some v := cel h1 4 rfl
  have hB1 : B < w1.heap.size := Nat.lt_of_lt_of_le hB hsz
  have HSZ := Aside.mk (Txt.size_mk t)
  have HTN := Aside.mk ht
  clear ht
  have H1 := Aside.mk h1
  have H2 := Aside.mk h2
  have HB := Aside.mk hb
  clear h1 h2 hb h
  go_wp2_with (at_builtin; refine Lib.wpList_append_own_string _ rfl _ _ 73 9 rfl (B + 1) 5 i0 Tryz.underlying73 Tryz.underlying9 hi hz0 hz1 hz2 _ _ _ rfl H2.out ⟨t.toArray⟩ rfl (by rw [HSZ.out]; unfold maxLen; omega) (by rw [HSZ.out]; omega) (by omega) ?_)
  intro v' w6 hown hgrow _
  obtain ⟨A', cap', rfl⟩ := ownsRow_slice hown
  have hne : v.ownBlock ≠ some B := fun e => by have := (H2.out.lt B e).1; omega
  have hb6 := blk_grown H1.out hgrow (fun e => hne e.symm)
  have d4 : w6.cell? ⟨B, 4, none⟩ = some v := cel hb6 4 rfl
  have f4 := frz hb6 4
  have HO := Aside.mk hown
  have HG := Aside.mk hgrow
  have HB6 := Aside.mk hb6
  clear hown hgrow hb6 c3 c4 hi
  go_wp2
  go_ret2
  refine ⟨⟨_, rfl⟩, put_row (l := l ++ t) HB6.out (by have := HO.out; rw [show Lib.strCells ⟨t.toArray⟩ = Lib.byteCells t from rfl, ← Lib.byteCells_append] at this; rwa [List.length_append]) (by simp [HTN.out]), ?_⟩
  exact (HB.out.grown HG.out (by omega) (fun k hk => by have := (H2.out.lt k hk).1; omega)).setCell (p := ⟨B, 4, none⟩) (Nat.le_refl _) _
set_option maxHeartbeats 2000000 in
set_option maxRecDepth 100000 in
theorem text_of {w : World} {B : Nat} {s : ByteArray} {at_ : Nat} {nm : Bool} {l : List UInt8} (h : RD w B s at_ nm l) :
    Calls Tryz.prog 65 #[.pointer (some ⟨B, 3, none⟩)] w fun e w' => e = .returned (.string ⟨l.toArray⟩) ∧ Below B w w' := by
  obtain ⟨p, v, h1, _, h3, h4⟩ := h
  have hcell : ∀ W : World, W.heap = w.heap → W.cell? ⟨B, 4, none⟩ = some v := fun W e => by
    have := cel h1 4 (v := v) rfl
    simpa [World.cell?, e] using this
  by_cases h0 : l = []
  · obtain rfl := h4 h0
    subst h0
    have hUN := fun W q => Lib.run_unsafeString_none (P := Tryz.prog) W 143 3 9 q
    have c1 : w.drew.cell? ⟨B, 4, none⟩ = some (.slice none 0 0) := hcell _ rfl
    have hSD : ∀ W : World, (Builtin.unsafeSliceData_ #[73] 143 #[.slice none 0 0]).run Tryz.prog W = .ok (.pointer none) W := fun W => rfl
    clear hcell h1 h3 h4
    go_enter Tryz.func65, Tryz.ntmps65
    go_wp2
    go_region
    all_goals (go_wp2; go_ret; exact ⟨rfl, Below.drew (Below.refl B w)⟩)
  · have hl0 : l.length ≠ 0 := by simpa using h0
    obtain ⟨g, cap, cur, rfl, hbg, hg, hnc, hcm, hcs, htake⟩ : ∃ g cap cur, v = .slice (some ⟨g, 0, none⟩) l.length cap ∧ B + 1 ≤ g ∧ w.heap[g]? = some (.cells cur 5 (0, 0)) ∧ l.length ≤ cap ∧ cap ≤ maxLen ∧ cur.size = cap * 1 ∧ cur.toList.take (l.length * 1) = Lib.byteCells l := by
      rcases h3.2 with ⟨_, hz⟩ | ⟨g, cap, cur, hv, r⟩
      · exact absurd hz hl0
      · exact ⟨g, cap, cur, hv, r⟩
    have c1 : w.drew.cell? ⟨B, 4, none⟩ = some (.slice (some ⟨g, 0, none⟩) l.length cap) := hcell _ rfl
    have hSD : (Builtin.unsafeSliceData_ #[73] 143 #[.slice (some ⟨g, 0, none⟩) l.length cap]).run Tryz.prog w.drew = .ok (.pointer (some ⟨g, 0, none⟩)) w.drew :=
      Lib.run_unsafeSliceData_row _ _ _ _ _ _ (by omega)
    have hUS : (Builtin.unsafeString_ #[143, 3] 9 #[.pointer (some ⟨g, 0, none⟩), .int .i64 l.length]).run Tryz.prog w.drew = .ok (.string ⟨l.toArray⟩) (w.drew.freeze ⟨g, 0, none⟩ l.length) := by
      refine Lib.run_unsafeString_row w.drew 143 3 9 5 Tryz.underlying143 (by kernel_rfl) g cur.size (by have hg' : w.drew.heap[g]? = some (.cells cur 5 (0, 0)) := hg; simp [World.shape?, hg']) l h0 (by omega) (by unfold maxLen at hcm; omega) ?_
      intro j x hx
      have := h3.cells (g := g) rfl j (.int .u8 x.toNat) (by simp [Lib.byteCells, hx])
      exact this
    clear hcell h1 h3 h4 hg htake hcs hnc hcm
    go_enter Tryz.func65, Tryz.ntmps65
    go_wp2
    go_region
    all_goals (go_wp2; go_ret; exact ⟨rfl, Lib.below_freeze (Below.drew (Below.refl B w)) (p := ⟨g, 0, none⟩) (show B ≤ g by omega) _⟩)
end Go.Proofs.YtiafggoaedifdaaGreatDoor.Esc
/- Contracts of functions of Go's library, as the kit's shelf proves them of whatever program, at this program's numbers. Each states its own conditions. -/
namespace Go.Proofs.YtiafggoaedifdaaGreatDoor
open Go.Shelf
def Shelf.Laysn152_ren : Go.Shelf.Ren := ⟨fun | 119 => 173 | 137 => 172 | 152 => 168 | 217 => 142 | 224 => 144 | 225 => 143 | 266 => 155 | n => n, fun | 0 => 0 | 3 => 3 | 4 => 4 | 5 => 5 | 9 => 9 | 21 => 21 | 46 => 74 | n => n, fun  | n => n⟩
theorem Shelf.Laysn152 : Go.Proofs.Lays.n152 Tryz.prog Shelf.Laysn152_ren := {
  mixed := by kernel_rfl
  f119 := Tryz.func173.trans (congrArg some (by kernel_rfl))
  f137 := Tryz.func172.trans (congrArg some (by kernel_rfl))
  f152 := Tryz.func168.trans (congrArg some (by kernel_rfl))
  f217 := Tryz.func142.trans (congrArg some (by kernel_rfl))
  f224 := Tryz.func144.trans (congrArg some (by kernel_rfl))
  f225 := Tryz.func143.trans (congrArg some (by kernel_rfl))
  f266 := Tryz.func155.trans (congrArg some (by kernel_rfl))
  t0 := Tryz.underlying0
  a0 := Tryz.isAgg0
  z0 := Tryz.sizeOf0
  v0 := Tryz.zeroValue0
  t3 := Tryz.underlying3
  a3 := Tryz.isAgg3
  z3 := Tryz.sizeOf3
  v3 := Tryz.zeroValue3
  t4 := Tryz.underlying4
  a4 := Tryz.isAgg4
  z4 := Tryz.sizeOf4
  v4 := Tryz.zeroValue4
  t5 := Tryz.underlying5
  a5 := Tryz.isAgg5
  z5 := Tryz.sizeOf5
  v5 := Tryz.zeroValue5
  t9 := Tryz.underlying9
  a9 := Tryz.isAgg9
  z9 := Tryz.sizeOf9
  v9 := Tryz.zeroValue9
  t21 := Tryz.underlying21
  a21 := Tryz.isAgg21
  z21 := Tryz.sizeOf21
  v21 := Tryz.zeroValue21
  t46 := Tryz.underlying74
  a46 := Tryz.isAgg74
  z46 := Tryz.sizeOf74
  v46 := Tryz.zeroValue74 }
open Go.RowKit Go.Lib in
theorem Shelf.strings_IndexRune_ascii  (s : ByteArray) (r : Int) (w : World) (h0 : 0 ≤ r) (h1 : r < 128) :
    Calls Tryz.prog 168 #[.string s, .int .i32 r] w fun e w' => e = .returned (.int .i64 (Lib.indexByte s.data.toList r.toNat.toUInt8)) ∧ w' = w := Any.strings_IndexRune_ascii Shelf.Laysn152  s r w h0 h1
def Shelf.Laysn151_ren : Go.Shelf.Ren := ⟨fun | 119 => 173 | 137 => 172 | 151 => 164 | 152 => 168 | 217 => 142 | 224 => 144 | 225 => 143 | 266 => 155 | n => n, fun | 0 => 0 | 3 => 3 | 4 => 4 | 5 => 5 | 9 => 9 | 21 => 21 | 46 => 74 | n => n, fun  | n => n⟩
theorem Shelf.Laysn151 : Go.Proofs.Lays.n151 Tryz.prog Shelf.Laysn151_ren := {
  mixed := by kernel_rfl
  f119 := Tryz.func173.trans (congrArg some (by kernel_rfl))
  f137 := Tryz.func172.trans (congrArg some (by kernel_rfl))
  f151 := Tryz.func164.trans (congrArg some (by kernel_rfl))
  f152 := Tryz.func168.trans (congrArg some (by kernel_rfl))
  f217 := Tryz.func142.trans (congrArg some (by kernel_rfl))
  f224 := Tryz.func144.trans (congrArg some (by kernel_rfl))
  f225 := Tryz.func143.trans (congrArg some (by kernel_rfl))
  f266 := Tryz.func155.trans (congrArg some (by kernel_rfl))
  t0 := Tryz.underlying0
  a0 := Tryz.isAgg0
  z0 := Tryz.sizeOf0
  v0 := Tryz.zeroValue0
  t3 := Tryz.underlying3
  a3 := Tryz.isAgg3
  z3 := Tryz.sizeOf3
  v3 := Tryz.zeroValue3
  t4 := Tryz.underlying4
  a4 := Tryz.isAgg4
  z4 := Tryz.sizeOf4
  v4 := Tryz.zeroValue4
  t5 := Tryz.underlying5
  a5 := Tryz.isAgg5
  z5 := Tryz.sizeOf5
  v5 := Tryz.zeroValue5
  t9 := Tryz.underlying9
  a9 := Tryz.isAgg9
  z9 := Tryz.sizeOf9
  v9 := Tryz.zeroValue9
  t21 := Tryz.underlying21
  a21 := Tryz.isAgg21
  z21 := Tryz.sizeOf21
  v21 := Tryz.zeroValue21
  t46 := Tryz.underlying74
  a46 := Tryz.isAgg74
  z46 := Tryz.sizeOf74
  v46 := Tryz.zeroValue74 }
open Go.RowKit Go.Lib in
theorem Shelf.strings_ContainsRune_ascii  (s : ByteArray) (r : Int) (w : World) (h0 : 0 ≤ r) (h1 : r < 128) :
    Calls Tryz.prog 164 #[.string s, .int .i32 r] w fun e w' => e = .returned (.bool (decide (0 ≤ Lib.indexByte s.data.toList r.toNat.toUInt8))) ∧ w' = w := Any.strings_ContainsRune_ascii Shelf.Laysn151  s r w h0 h1
def Shelf.Laysn137_ren : Go.Shelf.Ren := ⟨fun | 137 => 172 | 217 => 142 | 266 => 155 | n => n, fun | 3 => 3 | 5 => 5 | 9 => 9 | n => n, fun  | n => n⟩
theorem Shelf.Laysn137 : Go.Proofs.Lays.n137 Tryz.prog Shelf.Laysn137_ren := {
  mixed := by kernel_rfl
  f137 := Tryz.func172.trans (congrArg some (by kernel_rfl))
  f217 := Tryz.func142.trans (congrArg some (by kernel_rfl))
  f266 := Tryz.func155.trans (congrArg some (by kernel_rfl))
  t3 := Tryz.underlying3
  a3 := Tryz.isAgg3
  z3 := Tryz.sizeOf3
  v3 := Tryz.zeroValue3
  t5 := Tryz.underlying5
  a5 := Tryz.isAgg5
  z5 := Tryz.sizeOf5
  v5 := Tryz.zeroValue5
  t9 := Tryz.underlying9
  a9 := Tryz.isAgg9
  z9 := Tryz.sizeOf9
  v9 := Tryz.zeroValue9 }
open Go.RowKit in
theorem Shelf.strings_IndexByte  (s : ByteArray) (c : Int) (w : World) :
    Calls Tryz.prog 172 #[.string s, .int .u8 c] w fun e w' => e = .returned (.int .i64 (Lib.indexByte s.data.toList c.toNat.toUInt8)) ∧ w' = w := Any.strings_IndexByte Shelf.Laysn137  s c w
end Go.Proofs.YtiafggoaedifdaaGreatDoor
/- strings.IndexRune at the digits and a rune that is none of ASCII's, and has two bytes, or is none. Conditions: those. -/
namespace Go.Proofs.YtiafggoaedifdaaGreatDoor.Code
open Go.RowKit
set_option linter.unusedVariables false
def digitsS : ByteArray := ⟨#[48, 49, 50, 51, 52, 53, 54, 55, 56, 57, 97, 98, 99, 100, 101, 102]⟩
set_option maxRecDepth 1000000 in
set_option maxHeartbeats 8000000 in
theorem index_two (r : Nat) (h1 : 128 ≤ r) (h2 : r < 2048) (w : World) : Calls Tryz.prog 168 #[.string ⟨#[48, 49, 50, 51, 52, 53, 54, 55, 56, 57, 97, 98, 99, 100, 101, 102]⟩, .int .i32 r] w fun e w' => e = .returned (.int .i64 (-1)) ∧ Below w.heap.size w w' := by
  have g1 : (128 : Int) ≤ (r : Int) := by omega
  have g2 : (0 : Int) ≤ (r : Int) := by omega
  have g3 : ((r : Int) == 65533) = false := by simp; omega
  have hv : Lib.validRune r = true := by unfold Lib.validRune; simp; omega
  obtain ⟨b1, b2, hb2, henc⟩ : ∃ b1 b2 : UInt8, 128 ≤ b2.toNat ∧ Utf8.encode r = ⟨#[b1, b2]⟩ := by
    have hu : Utf8.valid (r : Int) = true := by unfold Utf8.valid; simp; omega
    refine ⟨UInt8.ofNat (192 + r / 64), UInt8.ofNat (128 + r % 64), ?_, ?_⟩
    · rw [UInt8.toNat_ofNat']; omega
    · unfold Utf8.encode
      simp only [hu, if_true, Int.toNat_natCast]
      rw [if_neg (by omega), if_pos (by omega)]
  have g4 : ((49 : Int) != (b2.toNat : Int)) = true := by simp; omega
  have HI := Aside.mk (show Lib.indexByte [50, 51, 52, 53, 54, 55, 56, 57, 97, 98, 99, 100, 101, 102] b2 = -1 by
    have := Txt.index_mem b2 [50, 51, 52, 53, 54, 55, 56, 57, 97, 98, 99, 100, 101, 102]
    have hc : ([50, 51, 52, 53, 54, 55, 56, 57, 97, 98, 99, 100, 101, 102] : List UInt8).contains b2 = false := by
      rw [List.contains_eq_any_beq, List.any_eq_false]
      intro x hx
      simp only [List.mem_cons, List.not_mem_nil, or_false] at hx
      intro e
      have e2 := beq_iff_eq.1 e
      subst e2
      rcases hx with h | h | h | h | h | h | h | h | h | h | h | h | h | h <;> (rw [h] at hb2; exact absurd hb2 (by decide))
    rw [hc] at this
    have h2 := of_decide_eq_false this
    have h3 := Lib.indexByte_ge [50, 51, 52, 53, 54, 55, 56, 57, 97, 98, 99, 100, 101, 102] b2
    omega)
  have hi1 : ∀ W : World, (Instr.index 9 (.string ⟨#[48, 49, 50, 51, 52, 53, 54, 55, 56, 57, 97, 98, 99, 100, 101, 102]⟩) (.int .i64 1)).run Tryz.prog W = .ok (.int .u8 49) W := fun W => by kernel_rfl
  have hi2 : ∀ W : World, (Instr.index 9 (.string ⟨#[b1, b2]⟩) (.int .i64 1)).run Tryz.prog W = .ok (.int .u8 b2.toNat) W := fun W => by kernel_rfl
  go_enter Tryz.func168, Tryz.ntmps168
  go_wp2_with fail
  have hvr := Shelf.utf8_ValidRune r w
  rw [hv] at hvr
  refine hvr.mono ?_
  rintro e w1 ⟨rfl, rfl⟩
  clear hvr hv
  go_wp2_with fail
  go_step3
  go_wp2_with fail
  refine wp_loop_rounds 1 ?_
  rw [rounds_succ]
  go_wp2_with fail
  go_step3
  go_wp2_with fail
  go_quiet (fail)
  have HW0 := Aside.mk (below_drewN w1 nq)
  obtain ⟨W2, hW2⟩ : ∃ W2, W2 = w1.drewN nq := ⟨_, rfl⟩
  rw [← hW2] at HW0 ⊢
  clear hW2
  go_wp2_with fail
  have hib := fun W => Shelf.strings_IndexByte ⟨#[50, 51, 52, 53, 54, 55, 56, 57, 97, 98, 99, 100, 101, 102]⟩ b2.toNat W
  have hc2 : ((b2.toNat : Int).toNat.toUInt8) = b2 := by rw [Int.toNat_natCast]; exact UInt8.ofNat_toNat
  rw [hc2] at hib
  have hib2 : ∀ W, Calls Tryz.prog 172 #[.string ⟨#[50, 51, 52, 53, 54, 55, 56, 57, 97, 98, 99, 100, 101, 102]⟩, .int .u8 b2.toNat] W fun e w' => e = .returned (.int .i64 (-1)) ∧ w' = W := fun W => (hib W).mono fun e w' h => ⟨by rw [h.1]; exact congrArg (fun x => Ending.returned (.int .i64 x)) HI.out, h.2⟩
  have HB := Aside.mk hib2
  clear hib hib2 hc2
  go_quiet ((go_at_call 172; exact Calls.quiet_of_same (HB.out _)))
  go_wp2_with fail
  rw [Exit.noGoto_ret]
  go_wp2
  rw [Exit.noGoto_ret]
  go_ret
  exact ⟨rfl, below_then HW0.out (below_drewN _ _)⟩
end Go.Proofs.YtiafggoaedifdaaGreatDoor.Code
