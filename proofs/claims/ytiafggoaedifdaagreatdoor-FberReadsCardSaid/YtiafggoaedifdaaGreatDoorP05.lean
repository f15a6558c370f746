/- Several texts, one behind the other. filt, plain: a right filter's text, read, is that filter. No program. filt, plain: the same filters, all filters in one, their names, how deep they stand. No program. fber, plain: filters' trees, filters of trees; what is made, read, is that. No program. Values without memory: what a text computes with, how such a value lies in a world, that it lies so in later worlds. Of whatever program. No conditions. -/
import Derived.Test.YtiafggoaedifdaaGreatDoorP04
import Derived.Test.YtiafggoaedifdaaGreatDoorP01
import Derived.Laws.AppendOwn
import Derived.Maps.AppendAt
/- filt, plain: a right filter's text, read, is that filter. No program. -/
namespace Go.Proofs.YtiafggoaedifdaaGreatDoor.Fl
open Go.Lib
set_option linter.unusedVariables false
theorem esc_no (v : List UInt8) (b : UInt8) (hb : b ∈ escF v) : b ≠ 42 ∧ b ≠ 40 ∧ b ≠ 41 := flat_signs Prints.esc v b hb
theorem split_stars : ∀ (l : List ByteArray) (f : ByteArray), Txt.splitOn 42 ((l.flatMap fun s => escF (bl s) ++ [42]) ++ escF (bl f)) = l.map (fun s => escF (bl s)) ++ [escF (bl f)]
 | [], f => split_none 42 _ (fun h => (esc_no _ _ h).1 rfl)
 | x :: t, f => by
  rw [List.flatMap_cons, List.append_assoc, List.append_assoc]
  show Txt.splitOn 42 (escF (bl x) ++ 42 :: ((t.flatMap fun s => escF (bl s) ++ [42]) ++ escF (bl f))) = _
  rw [split_here 42 _ _ (fun h => (esc_no _ _ h).1 rfl), split_stars t f]; rfl
theorem allM_esc : ∀ l : List ByteArray, Dn.allM readV (l.map fun s => escF (bl s)) = some l := fun l => Dn.allM_map readV (fun s => escF (bl s)) l (fun s _ => readV_esc s)
theorem size_of_all {a : List ByteArray} (h : a = []) : a.isEmpty = true := by rw [h]; rfl
theorem item_print (k : Int) (n v : ByteArray) (a : List ByteArray) (f : ByteArray) (hk : k = 3 ∨ k = 4 ∨ k = 5 ∨ k = 6 ∨ k = 7 ∨ k = 8) (h : oneB (.mk k n v a f []) = true) : itemF (bl n ++ midB k v a f) = some (.mk k n v a f []) ∧ (∀ b ∈ bl n ++ midB k v a f, b ≠ 41) ∧ nameB (bl n) = true := by
 unfold oneB at h
 dsimp only at h
 rw [if_neg (by omega)] at h
 by_cases h7 : k = 7
 ·subst h7
  rw [if_pos rfl] at h
  unfold namedB bareB at h
  simp only [Bool.and_eq_true, decide_eq_true_eq, List.isEmpty_iff] at h
  obtain ⟨⟨hn, _⟩, hv, ha, hf⟩ := h
  have hb := name_bytes hn
  have e61 : (61 : UInt8) ∉ bl n := fun hm => (nameByte_ne (hb _ hm)).1 rfl
  refine ⟨?_, fun b hb2 => ?_, hn⟩
  ·unfold itemF midB
   rw [if_pos rfl, cutL_here 61 [42] (bl n) e61]
   dsimp only
   rw [end_name hn, if_pos ⟨rfl, by decide⟩, if_pos rfl, size_zero hv, ha, size_zero hf]; rfl
  ·unfold midB at hb2
   rw [if_pos rfl] at hb2
   rcases List.mem_append.1 hb2 with hb2 | hb2
   ·exact (nameByte_ne (hb _ hb2)).2.1
   ·simp at hb2; rcases hb2 with rfl | rfl <;> decide
 rw [if_neg h7] at h
 by_cases h4 : k = 4
 ·subst h4
  rw [if_pos rfl] at h
  unfold namedB at h
  simp only [Bool.and_eq_true, decide_eq_true_eq] at h
  obtain ⟨⟨hn, _⟩, hbare, _, hany⟩ := h
  have hb := name_bytes hn
  have e61 : (61 : UInt8) ∉ bl n := fun hm => (nameByte_ne (hb _ hm)).1 rfl
  obtain ⟨val, hval⟩ : ∃ val, val = ((v :: a).flatMap fun s => escF (bl s) ++ [42]) ++ escF (bl f) := ⟨_, rfl⟩
  have hmid : midB 4 v a f = 61 :: val := by unfold midB; rw [if_neg (by decide), if_pos rfl, hval]; rfl
  have hstar : (42 : UInt8) ∈ val := by
   rw [hval, List.flatMap_cons]; simp
  have hne : val ≠ [42] := by
   intro e
   have hs := split_stars (v :: a) f
   rw [← hval, e] at hs
   have e2 : Txt.splitOn 42 [42] = [[], []] := by decide
   rw [e2] at hs
   cases a with
   | cons x t => simp at hs
   | nil =>
    simp at hs
    obtain ⟨hs1, hs2⟩ := hs
    have hv := readV_esc v
    have hf := readV_esc f
    rw [hs1] at hv
    rw [hs2] at hf
    have : readV [] = some (bt' []) := by
     have := readV_esc (bt' [])
     rwa [bl_of] at this
    rw [this] at hv hf
    cases hv; cases hf
    have : bareB (bt' []) [] (bt' []) = true := by decide
    rw [this] at hbare; cases hbare
  refine ⟨?_, fun b hb2 => ?_, hn⟩
  ·rw [hmid]
   unfold itemF
   rw [cutL_here 61 val (bl n) e61]
   dsimp only
   rw [end_name hn, if_pos ⟨rfl, List.contains_iff_mem.2 hstar⟩, if_neg hne, hval, split_stars (v :: a) f]
   have := allM_esc ((v :: a) ++ [f])
   rw [List.map_append] at this
   rw [show (v :: a).map (fun s => escF (bl s)) ++ [escF (bl f)] = (v :: a).map (fun s => escF (bl s)) ++ [f].map (fun s => escF (bl s)) from rfl, this]
   show some (Flt.mk 4 (bt' (bl n)) v (a ++ [f]).dropLast ((a ++ [f]).getLast?.getD (bt' [])) []) = _
   rw [List.dropLast_concat, List.getLast?_concat]; rfl
  ·rcases List.mem_append.1 hb2 with hb2 | hb2
   ·exact (nameByte_ne (hb _ hb2)).2.1
   ·rw [hmid, hval] at hb2
    rcases List.mem_cons.1 hb2 with rfl | hb2
    ·decide
    ·rcases List.mem_append.1 hb2 with hb2 | hb2
     ·obtain ⟨s, _, hs⟩ := List.mem_flatMap.1 hb2
      rcases List.mem_append.1 hs with hs | hs
      ·exact (esc_no _ _ hs).2.2
      ·rw [List.mem_singleton] at hs; rw [hs]; decide
     ·exact (esc_no _ _ hb2).2.2
 rw [if_neg h4, if_pos (by omega)] at h
 unfold namedB at h
 simp only [Bool.and_eq_true, decide_eq_true_eq, List.isEmpty_iff] at h
 obtain ⟨⟨hn, _⟩, ha, hf⟩ := h
 have hb := name_bytes hn
 have e61 : (61 : UInt8) ∉ bl n := fun hm => (nameByte_ne (hb _ hm)).1 rfl
 have hnv : (escF (bl v)).contains 42 = false := by
  cases hc : (escF (bl v)).contains 42
  ·rfl
  ·exact absurd rfl (esc_no _ _ (List.contains_iff_mem.1 hc)).1
 have hmid : midB k v a f = signB k ++ escF (bl v) := by unfold midB; rw [if_neg h7, if_neg h4]
 have hsg : ∃ c : List UInt8, signB k = c ++ [61] ∧ (61 : UInt8) ∉ c ∧ (∀ b ∈ c, b ≠ 41) ∧ endK (bl n ++ c) = (k, bl n) := by
  rcases hk with rfl | rfl | rfl | rfl | rfl | rfl
  ·exact ⟨[], rfl, by simp, by simp, by rw [List.append_nil]; exact end_name hn⟩
  ·exact absurd rfl h4
  ·exact ⟨[62], rfl, by decide, by decide, end_sign _ _ _ (.inl ⟨rfl, rfl⟩)⟩
  ·exact ⟨[60], rfl, by decide, by decide, end_sign _ _ _ (.inr (.inl ⟨rfl, rfl⟩))⟩
  ·exact absurd rfl h7
  ·exact ⟨[126], rfl, by decide, by decide, end_sign _ _ _ (.inr (.inr ⟨rfl, rfl⟩))⟩
 obtain ⟨c, c1, c2, c3, c4⟩ := hsg
 refine ⟨?_, fun b hb2 => ?_, hn⟩
 ·rw [hmid, c1]
  unfold itemF
  rw [show bl n ++ (c ++ [61] ++ escF (bl v)) = (bl n ++ c) ++ 61 :: escF (bl v) by simp, cutL_here 61 _ _ (by
   intro hm
   rcases List.mem_append.1 hm with hm | hm
   ·exact e61 hm
   ·exact c2 hm)]
  dsimp only
  rw [hnv, if_neg (by simp), readV_esc, c4, ha, size_zero hf]
  rfl
 ·rcases List.mem_append.1 hb2 with hb2 | hb2
  ·exact (nameByte_ne (hb _ hb2)).2.1
  ·rw [hmid, c1] at hb2
   rcases List.mem_append.1 hb2 with hb2 | hb2
   ·rcases List.mem_append.1 hb2 with hb2 | hb2
    ·exact c3 b hb2
    ·rw [List.mem_singleton] at hb2; rw [hb2]; decide
   ·exact (esc_no _ _ hb2).2.2
theorem one_kind {k : Int} {n v : ByteArray} {a : List ByteArray} {f : ByteArray} {l : List Flt} (h : oneB (.mk k n v a f l) = true) : ((k = 0 ∨ k = 1 ∨ k = 2) ∧ n = bt' [] ∧ v = bt' [] ∧ a = [] ∧ f = bt' [] ∧ 1 ≤ l.length ∧ l.length ≤ 8) ∨ ((k = 3 ∨ k = 4 ∨ k = 5 ∨ k = 6 ∨ k = 7 ∨ k = 8) ∧ l = [] ∧ nameB (bl n) = true) := by
 unfold oneB at h
 dsimp only at h
 by_cases h0 : k = 0 ∨ k = 1 ∨ k = 2
 ·rw [if_pos h0] at h
  unfold bareB at h
  simp only [Bool.and_eq_true, decide_eq_true_eq, List.isEmpty_iff] at h
  obtain ⟨h1, ⟨h2, h3, h4⟩, h5, h6, _⟩ := h
  exact .inl ⟨h0, size_zero h1, size_zero h2, h3, size_zero h4, h5, h6⟩
 ·rw [if_neg h0] at h
  right
  by_cases h7 : k = 7
  ·rw [if_pos h7] at h
   unfold namedB at h
   simp only [Bool.and_eq_true, List.isEmpty_iff] at h
   exact ⟨by omega, h.1.2.1, h.1.1⟩
  ·rw [if_neg h7] at h
   by_cases h4 : k = 4
   ·rw [if_pos h4] at h
    unfold namedB at h
    simp only [Bool.and_eq_true, List.isEmpty_iff] at h
    exact ⟨by omega, h.1.2.1, h.1.1⟩
   ·rw [if_neg h4] at h
    by_cases h3 : k = 3 ∨ k = 5 ∨ k = 6 ∨ k = 8
    ·rw [if_pos h3] at h
     unfold namedB at h
     simp only [Bool.and_eq_true, List.isEmpty_iff] at h
     exact ⟨by omega, h.1.2.1, h.1.1⟩
    ·rw [if_neg h3] at h; cases h
theorem prF_head (f : Flt) : ∃ t, prF f = 40 :: t := by cases f; exact ⟨_, rfl⟩
theorem prFs_len : ∀ l : List Flt, l.length ≤ (prFs l).length
 | [] => Nat.le_refl _
 | x :: r => by
  obtain ⟨t, ht⟩ := prF_head x
  have := prFs_len r
  rw [prFs, ht, List.length_append, List.length_cons, List.length_cons]; omega
theorem right_one {d : Nat} {f : Flt} (h : rightF d f = true) : d ≤ 6 ∧ oneB f = true ∧ rightFs (d + 1) f.l = true := by
 obtain ⟨k, n, v, a, fi, l⟩ := f
 rw [rightF] at h
 simp only [Bool.and_eq_true, decide_eq_true_eq] at h
 exact ⟨h.1, h.2.1, h.2.2⟩
theorem rights_mem : ∀ {l : List Flt} {d : Nat}, rightFs d l = true → ∀ x ∈ l, rightF d x = true
 | [], _, _, x, hx => by cases hx
 | y :: r, d, h, x, hx => by
  rw [rightFs, Bool.and_eq_true] at h
  rcases List.mem_cons.1 hx with rfl | hx
  ·exact h.1
  ·exact rights_mem h.2 x hx
theorem rdF_item (d : Nat) (c : UInt8) (r : List UInt8) (h : c ≠ 38 ∧ c ≠ 124 ∧ c ≠ 33) : rdF (d + 1) (40 :: c :: r) = match cutL 41 (c :: r) with
  | some (s, t) => (itemF s).map fun f => (f, t)
  | none => none := by
 rw [rdF.eq_def]
 dsimp only
 split
 ·rename_i r' e
  injection e with _ e
  subst e
  split
  ·rename_i e; injection e with e _; exact absurd e h.1
  ·rename_i e; injection e with e _; exact absurd e h.2.1
  ·rename_i e; injection e with e _; exact absurd e h.2.2
  ·rfl
 ·rename_i e; exact (e _ rfl).elim
theorem rd_print : ∀ (d : Nat) (f : Flt) (t : List UInt8), d ≤ 6 → rightF (7 - d) f = true → rdF d (prF f ++ t) = some (f, t)
 | 0, f, t, _, h => by
  have := (right_one h).1
  omega
 | d + 1, .mk k n v a fi l, t, hd, h => by
  obtain ⟨_, h1, h2⟩ := right_one h
  dsimp only [Flt.l] at h2
  rw [show 7 - (d + 1) + 1 = 7 - d by omega] at h2
  rcases one_kind h1 with ⟨hk, rfl, rfl, rfl, rfl, hl1, _⟩ | ⟨hk, rfl, hn⟩
  ·have hloop : ∀ (l : List Flt) (m : Nat), rightFs (7 - d) l = true → l.length < m → loopL (rdF d) m (prFs l ++ 41 :: t) = some (l, 41 :: t) := by
    intro l
    induction l with
    | nil =>
     intro m _ hm
     obtain ⟨m, rfl⟩ : ∃ q, m = q + 1 := ⟨m - 1, by simp at hm; omega⟩
     rfl
    | cons x r ih =>
     intro m hr hm
     rw [rightFs, Bool.and_eq_true] at hr
     obtain ⟨m, rfl⟩ : ∃ q, m = q + 1 := ⟨m - 1, by simp at hm; omega⟩
     have hx := rd_print d x (prFs r ++ 41 :: t) (by omega) hr.1
     rw [prFs, List.append_assoc]
     obtain ⟨y, hy⟩ := prF_head x
     rw [hy] at hx ⊢
     rw [List.cons_append] at hx ⊢
     rw [loopL, hx]
     simp only [ih m hr.2 (by simp at hm; omega)]
     rfl
   have hset : ∀ k, setK (rdF d) k (prFs l ++ 41 :: t) = some (.mk k (bt' []) (bt' []) [] (bt' []) l, t) := fun k => by
    unfold setK
    rw [hloop l _ h2 (by have := prFs_len l; rw [List.length_append, List.length_cons]; omega)]
    rfl
   have he : escF (bl (bt' [])) = [] := rfl
   rw [prF]
   have e0 : ∀ c : List UInt8, 40 :: (bl (bt' []) ++ (c ++ []) ++ prFs l ++ [41]) ++ t = 40 :: (c ++ (prFs l ++ 41 :: t)) := fun c => by simp [bl_of]
   rcases hk with rfl | rfl | rfl
   ·rw [show midB 0 (bt' []) [] (bt' []) = [38] ++ [] from rfl, e0]
    show setK (rdF d) 0 (prFs l ++ 41 :: t) = _
    exact hset 0
   ·rw [show midB 1 (bt' []) [] (bt' []) = [124] ++ [] from rfl, e0]
    show setK (rdF d) 1 (prFs l ++ 41 :: t) = _
    exact hset 1
   ·rw [show midB 2 (bt' []) [] (bt' []) = [33] ++ [] from rfl, e0]
    show setK (rdF d) 2 (prFs l ++ 41 :: t) = _
    exact hset 2
  ·obtain ⟨i1, i2, _⟩ := item_print k n v a fi hk h1
   have hb := name_bytes hn
   rw [prF, prFs, List.append_nil]
   obtain ⟨c, r, hcr⟩ : ∃ c r, bl n ++ midB k v a fi = c :: r ∧ nameByte c = true := by
    cases hbl : bl n with
    | nil => exact absurd hbl (name_ne hn)
    | cons c r => exact ⟨c, r ++ midB k v a fi, rfl, hb c (by rw [hbl]; simp)⟩
   obtain ⟨hcr, hc⟩ := hcr
   have hcut := cutL_here 41 t (bl n ++ midB k v a fi) (fun hm => i2 _ hm rfl)
   rw [show 40 :: (bl n ++ midB k v a fi ++ [41]) ++ t = 40 :: (bl n ++ midB k v a fi ++ 41 :: t) by simp]
   rw [hcr] at hcut i1 ⊢
   have hne := nameByte_ne hc
   rw [List.cons_append] at hcut ⊢
   rw [rdF_item d c _ hne.2.2.2.2.2.2.2, hcut]
   dsimp only
   rw [i1]; rfl
theorem parsed_print (f : Flt) (h : rightF 1 f = true) : parsedF (prF f) = some f := by
 have := rd_print 6 f [] (Nat.le_refl _) h
 rw [List.append_nil] at this
 unfold parsedF
 rw [this]
 dsimp only
 rw [if_pos h]
end Go.Proofs.YtiafggoaedifdaaGreatDoor.Fl
/- filt, plain: the same filters, all filters in one, their names, how deep they stand. No program. -/
namespace Go.Proofs.YtiafggoaedifdaaGreatDoor.Fl
set_option linter.unusedVariables false
mutual
def sameF : Flt → Flt → Bool
 | .mk k n v a f l, .mk k' n' v' a' f' l' => decide (k = k') && (decide (n = n') && (decide (v = v') && (decide (f = f') && (decide (a = a') && sameFs l l'))))
def sameFs : List Flt → List Flt → Bool
 | [], [] => true
 | x :: r, y :: s => sameF x y && sameFs r s
 | _, _ => false
end
mutual
theorem sameF_iff : ∀ x y : Flt, sameF x y = true ↔ x = y
 | .mk k n v a f l, .mk k' n' v' a' f' l' => by
  rw [sameF]
  simp only [Bool.and_eq_true, decide_eq_true_eq, sameFs_iff l l']
  constructor
  ·rintro ⟨rfl, rfl, rfl, rfl, rfl, rfl⟩; rfl
  ·intro h; injection h with h1 h2 h3 h4 h5 h6; exact ⟨h1, h2, h3, h5, h4, h6⟩
theorem sameFs_iff : ∀ x y : List Flt, sameFs x y = true ↔ x = y
 | [], [] => by simp [sameFs]
 | x :: r, y :: s => by rw [sameFs, Bool.and_eq_true, sameF_iff x y, sameFs_iff r s, List.cons.injEq]
 | [], _ :: _ => by simp [sameFs]
 | _ :: _, [] => by simp [sameFs]
end
theorem sameF_refl (x : Flt) : sameF x x = true := (sameF_iff x x).2 rfl
mutual
def preF : Nat → Flt → List (Nat × Flt)
 | d, .mk k n v a f l => (d, .mk k n v a f l) :: preFs (d + 1) l
def preFs : Nat → List Flt → List (Nat × Flt)
 | _, [] => []
 | d, x :: r => preF d x ++ preFs d r
end
mutual
theorem right_pre : ∀ (d : Nat) (f : Flt), rightF d f = (preF d f).all fun p => decide (p.1 ≤ 6) && oneB p.2
 | d, .mk k n v a f l => by rw [rightF, preF, List.all_cons, rights_pre (d + 1) l, Bool.and_assoc]
theorem rights_pre : ∀ (d : Nat) (l : List Flt), rightFs d l = (preFs d l).all fun p => decide (p.1 ≤ 6) && oneB p.2
 | _, [] => rfl
 | d, x :: r => by rw [rightFs, preFs, List.all_append, right_pre d x, rights_pre d r]
end
mutual
def nmF : Flt → List ByteArray
 | .mk _ n _ _ _ l => (if n.size = 0 then [] else [n]) ++ nmFs l
def nmFs : List Flt → List ByteArray
 | [] => []
 | x :: r => nmF x ++ nmFs r
end
def nmOf (p : Nat × Flt) : Option ByteArray := if p.2.name.size = 0 then none else some p.2.name
mutual
theorem nm_pre : ∀ (d : Nat) (f : Flt), nmF f = (preF d f).filterMap nmOf
 | d, .mk k n v a f l => by
  rw [nmF, preF, List.filterMap_cons, nms_pre (d + 1) l]
  by_cases h : n.size = 0
  ·simp [nmOf, Flt.name, h]
  ·simp [nmOf, Flt.name, h]
theorem nms_pre : ∀ (d : Nat) (l : List Flt), nmFs l = (preFs d l).filterMap nmOf
 | _, [] => rfl
 | d, x :: r => by rw [nmFs, preFs, List.filterMap_append, nm_pre d x, nms_pre d r]
end
def namesF (f : Flt) : List ByteArray := if rightF 1 f = true then nmF f else []
mutual
theorem right_up : ∀ (d : Nat) (f : Flt), rightF (d + 1) f = true → rightF d f = true
 | d, .mk k n v a f l, h => by
  rw [rightF] at h ⊢
  simp only [Bool.and_eq_true, decide_eq_true_eq] at h ⊢
  exact ⟨by omega, h.2.1, rights_up (d + 1) l h.2.2⟩
theorem rights_up : ∀ (d : Nat) (l : List Flt), rightFs (d + 1) l = true → rightFs d l = true
 | _, [], _ => rfl
 | d, x :: r, h => by
  rw [rightFs, Bool.and_eq_true] at h ⊢
  exact ⟨right_up d x h.1, rights_up d r h.2⟩
end
mutual
theorem names_right : ∀ (d : Nat) (f : Flt), rightF d f = true → nmF f ≠ [] ∧ ∀ n ∈ nmF f, nameB (bl n) = true
 | d, .mk k n v a f l, h => by
  obtain ⟨_, h1, h2⟩ := right_one h
  dsimp only [Flt.l] at h2
  obtain ⟨i1, i2⟩ := names_rights (d + 1) l h2
  rw [nmF]
  rcases one_kind h1 with ⟨_, rfl, rfl, rfl, rfl, hl, _⟩ | ⟨_, rfl, hn⟩
  ·rw [if_pos (show (bt' []).size = 0 from rfl), List.nil_append]
   exact ⟨i1 (by rintro rfl; simp at hl), i2⟩
  ·have hz : ¬ n.size = 0 := fun e => name_ne hn (bl_zero e)
   rw [if_neg hz]
   refine ⟨by simp, fun m hm => ?_⟩
   rcases List.mem_append.1 hm with hm | hm
   ·rw [List.mem_singleton] at hm; rw [hm]; exact hn
   ·exact i2 m hm
theorem names_rights : ∀ (d : Nat) (l : List Flt), rightFs d l = true → (l ≠ [] → nmFs l ≠ []) ∧ ∀ n ∈ nmFs l, nameB (bl n) = true
 | _, [], _ => ⟨fun h => absurd rfl h, fun n hn => by cases hn⟩
 | d, x :: r, h => by
  rw [rightFs, Bool.and_eq_true] at h
  obtain ⟨i1, i2⟩ := names_right d x h.1
  obtain ⟨_, i4⟩ := names_rights d r h.2
  rw [nmFs]
  refine ⟨fun _ e => i1 (List.append_eq_nil_iff.1 e).1, fun n hn => ?_⟩
  rcases List.mem_append.1 hn with hn | hn
  ·exact i2 n hn
  ·exact i4 n hn
end
theorem names_item {f : Flt} (h : oneB f = true) (hk : ¬ f.kind ≤ 2) : nmF f = [f.name] := by
 obtain ⟨k, n, v, a, fi, l⟩ := f
 rcases one_kind h with ⟨h0, _⟩ | ⟨_, rfl, hn⟩
 ·exfalso; apply hk; show k ≤ 2; omega
 ·have hz : ¬ n.size = 0 := fun e => name_ne hn (bl_zero e)
  rw [nmF, if_neg hz]; rfl
theorem kind_ge {f : Flt} (h : oneB f = true) : 0 ≤ f.kind := by
 obtain ⟨k, n, v, a, fi, l⟩ := f
 rcases one_kind h with ⟨h0, _⟩ | ⟨h0, _⟩ <;> (show 0 ≤ k; omega)
theorem wraps_text (x : Flt) : prF (.mk 2 (bt' []) (bt' []) [] (bt' []) [x]) = 40 :: 33 :: (prF x ++ [41]) := by
 rw [prF, prFs, prFs, List.append_nil]
 show 40 :: (([] : List UInt8) ++ ([33] ++ []) ++ prF x ++ [41]) = _
 simp
theorem wraps_names (x : Flt) : nmF (.mk 2 (bt' []) (bt' []) [] (bt' []) [x]) = nmF x := by
 rw [nmF, nmFs, nmFs, List.append_nil]; rfl
theorem sets_text (k : Int) (c : UInt8) (hk : (k = 0 ∧ c = 38) ∨ (k = 1 ∧ c = 124)) (x y : Flt) : prF (.mk k (bt' []) (bt' []) [] (bt' []) [x, y]) = 40 :: c :: (prF x ++ prF y ++ [41]) := by
 rw [prF, prFs, prFs, prFs, List.append_nil]
 rcases hk with ⟨rfl, rfl⟩ | ⟨rfl, rfl⟩
 ·show 40 :: (([] : List UInt8) ++ ([38] ++ []) ++ (prF x ++ prF y) ++ [41]) = _
  simp
 ·show 40 :: (([] : List UInt8) ++ ([124] ++ []) ++ (prF x ++ prF y) ++ [41]) = _
  simp
theorem sets_names (k : Int) (x y : Flt) : nmF (.mk k (bt' []) (bt' []) [] (bt' []) [x, y]) = nmF x ++ nmF y := by
 rw [nmF, nmFs, nmFs, nmFs, List.append_nil]; rfl
theorem sets_right {k : Int} {x y : Flt} (h : rightF 1 (.mk k (bt' []) (bt' []) [] (bt' []) [x, y]) = true) : rightF 1 x = true ∧ rightF 1 y = true := by
 obtain ⟨_, _, h2⟩ := right_one h
 dsimp only [Flt.l] at h2
 rw [rightFs, rightFs, Bool.and_eq_true, Bool.and_eq_true] at h2
 exact ⟨right_up 1 x h2.1, right_up 1 y h2.2.1⟩
theorem wraps_right {x : Flt} (h : rightF 1 (.mk 2 (bt' []) (bt' []) [] (bt' []) [x]) = true) : rightF 1 x = true := by
 obtain ⟨_, _, h2⟩ := right_one h
 dsimp only [Flt.l] at h2
 rw [rightFs, Bool.and_eq_true] at h2
 exact right_up 1 x h2.1
theorem item_right (k : Int) (hk : k = 3 ∨ k = 5 ∨ k = 6 ∨ k = 8) (n v : ByteArray) : rightF 1 (.mk k n v [] (bt' []) []) = (nameB (bl n) && decide (v.size ≤ 60)) := by
 rw [rightF, rightFs]
 unfold oneB namedB shortB
 dsimp only
 rw [if_neg (by omega), if_neg (by omega), if_neg (by omega), if_pos hk]
 cases nameB (bl n) <;> cases h : decide (v.size ≤ 60) <;> rfl
theorem item_text (k : Int) (hk : k = 3 ∨ k = 5 ∨ k = 6 ∨ k = 8) (n v : ByteArray) : prF (.mk k n v [] (bt' []) []) = 40 :: (bl n ++ signB k ++ escF (bl v) ++ [41]) := by
 rw [prF, prFs, List.append_nil]
 unfold midB
 rw [if_neg (by omega), if_neg (by omega)]
 simp
theorem parsed_right {s : List UInt8} {f : Flt} (h : parsedF s = some f) : rightF 1 f = true := by
 unfold parsedF at h
 split at h
 ·split at h
  ·cases h; assumption
  ·cases h
 ·cases h
theorem parsed_item (s : List UInt8) (f : Flt) (hs : ∀ b ∈ s, b ≠ 41) (h0 : ∀ c t, s = c :: t → c ≠ 38 ∧ c ≠ 124 ∧ c ≠ 33) (hne : s ≠ []) (hi : itemF s = some f) : parsedF (40 :: (s ++ [41])) = if rightF 1 f = true then some f else none := by
 have hcut := cutL_here 41 [] s (fun hm => hs _ hm rfl)
 unfold parsedF
 cases s with
 | nil => exact absurd rfl hne
 | cons c t =>
  rw [List.cons_append] at hcut ⊢
  rw [rdF_item 5 c _ (h0 c t rfl), hcut]
  dsimp only
  rw [hi]
  rfl
theorem name_head {l : List UInt8} (h : nameB l = true) (r : List UInt8) : ∀ c t, l ++ r = c :: t → c ≠ 38 ∧ c ≠ 124 ∧ c ≠ 33 := fun c t e => by
 cases l with
 | nil => exact absurd rfl (name_ne h)
 | cons x y =>
  injection e with e _
  rw [← e]
  exact (nameByte_ne (name_bytes h x (by simp))).2.2.2.2.2.2.2
theorem stars_law (n a b : ByteArray) (hn : nameB (bl n) = true) (ha : a.size ≤ 60) (hb : b.size ≤ 60) :
  parsedF (40 :: (bl n ++ 61 :: (escF (bl a) ++ 42 :: escF (bl b)) ++ [41])) = some (if a.size = 0 ∧ b.size = 0 then .mk 7 n (bt' []) [] (bt' []) [] else .mk 4 n a [] b []) := by
 have e61 : (61 : UInt8) ∉ bl n := fun hm => (nameByte_ne (name_bytes hn _ hm)).1 rfl
 have hs : ∀ z ∈ bl n ++ 61 :: (escF (bl a) ++ 42 :: escF (bl b)), z ≠ 41 := fun z hz => by
  rcases List.mem_append.1 hz with hz | hz
  ·exact (nameByte_ne (name_bytes hn _ hz)).2.1
  ·rcases List.mem_cons.1 hz with rfl | hz
   ·decide
   ·rcases List.mem_append.1 hz with hz | hz
    ·exact (esc_no _ _ hz).2.2
    ·rcases List.mem_cons.1 hz with rfl | hz
     ·decide
     ·exact (esc_no _ _ hz).2.2
 have hc : (escF (bl a) ++ 42 :: escF (bl b)).contains 42 = true := by rw [List.contains_iff_mem]; simp
 have hesc : ∀ s : ByteArray, escF (bl s) = [] → s.size = 0 := fun s h => by
  have := readV_esc s
  rw [h] at this
  have h0 : readV [] = some (bt' []) := by
   have := readV_esc (bt' [])
   rwa [bl_of] at this
  rw [h0] at this
  cases this; rfl
 by_cases h0 : a.size = 0 ∧ b.size = 0
 ·rw [if_pos h0]
  have e : escF (bl a) ++ 42 :: escF (bl b) = [42] := by rw [bl_zero h0.1, bl_zero h0.2]; rfl
  have hi : itemF (bl n ++ 61 :: (escF (bl a) ++ 42 :: escF (bl b))) = some (.mk 7 n (bt' []) [] (bt' []) []) := by
   rw [e]
   unfold itemF
   rw [cutL_here 61 _ _ e61]
   dsimp only
   rw [end_name hn, if_pos ⟨rfl, by decide⟩, if_pos rfl]; rfl
  rw [parsed_item _ _ hs (name_head hn _) (by simp) hi, if_pos]
  rw [rightF, rightFs]
  unfold oneB namedB
  dsimp only
  rw [if_neg (by decide), if_pos rfl, hn]
  decide
 ·rw [if_neg h0]
  have e : escF (bl a) ++ 42 :: escF (bl b) ≠ [42] := by
   intro e
   have hs := split_stars [a] b
   have e3 : ([a].flatMap fun s => escF (bl s) ++ [42]) ++ escF (bl b) = escF (bl a) ++ 42 :: escF (bl b) := by simp
   rw [e3, e] at hs
   have e2 : Txt.splitOn 42 [42] = [[], []] := by decide
   rw [e2] at hs
   simp at hs
   exact h0 ⟨hesc a hs.1, hesc b hs.2⟩
  have hi : itemF (bl n ++ 61 :: (escF (bl a) ++ 42 :: escF (bl b))) = some (.mk 4 n a [] b []) := by
   unfold itemF
   rw [cutL_here 61 _ _ e61]
   dsimp only
   rw [end_name hn, if_pos ⟨rfl, hc⟩, if_neg e]
   have hs := split_stars [a] b
   have e3 : ([a].flatMap fun s => escF (bl s) ++ [42]) ++ escF (bl b) = escF (bl a) ++ 42 :: escF (bl b) := by simp
   rw [e3] at hs
   rw [hs]
   have := allM_esc [a, b]
   rw [show [a].map (fun s => escF (bl s)) ++ [escF (bl b)] = [a, b].map (fun s => escF (bl s)) from rfl, this]
   rfl
  rw [parsed_item _ _ hs (name_head hn _) (by simp) hi, if_pos]
  rw [rightF, rightFs]
  unfold oneB namedB
  dsimp only
  have hbare : bareB a [] b = false := by
   unfold bareB
   cases h1 : decide (a.size = 0) with
   | false => rfl
   | true =>
    cases h2 : decide (b.size = 0) with
    | false => rfl
    | true => exact absurd ⟨of_decide_eq_true h1, of_decide_eq_true h2⟩ h0
  rw [if_neg (by decide), if_neg (by decide), if_pos rfl, hn, hbare]
  unfold shortB
  rw [decide_eq_true ha, decide_eq_true hb]
  decide
theorem digits_law (n v : ByteArray) (hn : nameB (bl n) = true) (hv : v.size ≤ 60) :
  parsedF (40 :: (bl n ++ 61 :: ((bl v).flatMap fun b => 92 :: Code.hexB b) ++ [41])) = some (.mk 3 n v [] (bt' []) []) := by
 have e61 : (61 : UInt8) ∉ bl n := fun hm => (nameByte_ne (name_bytes hn _ hm)).1 rfl
 have hno := flat_signs Prints.hex (bl v)
 have hs : ∀ z ∈ bl n ++ 61 :: ((bl v).flatMap fun b => 92 :: Code.hexB b), z ≠ 41 := fun z hz => by
  rcases List.mem_append.1 hz with hz | hz
  ·exact (nameByte_ne (name_bytes hn _ hz)).2.1
  ·rcases List.mem_cons.1 hz with rfl | hz
   ·decide
   ·exact (hno z hz).2.2
 have hc : ((bl v).flatMap fun b => 92 :: Code.hexB b).contains 42 = false := by
  cases h : ((bl v).flatMap fun b => 92 :: Code.hexB b).contains 42
  ·rfl
  ·exact absurd rfl (hno _ (List.contains_iff_mem.1 h)).1
 have hr : readV ((bl v).flatMap fun b => 92 :: Code.hexB b) = some v := by
  unfold readV
  rw [show bt' ((bl v).flatMap fun b => 92 :: Code.hexB b) = ⟨((bl v).flatMap fun b => 92 :: Code.hexB b).toArray⟩ from rfl, read_back Prints.hex]; rfl
 have hi : itemF (bl n ++ 61 :: ((bl v).flatMap fun b => 92 :: Code.hexB b)) = some (.mk 3 n v [] (bt' []) []) := by
  unfold itemF
  rw [cutL_here 61 _ _ e61]
  dsimp only
  rw [end_name hn, hc, if_neg (by simp), hr]; rfl
 rw [parsed_item _ _ hs (name_head hn _) (by simp) hi, if_pos]
 rw [item_right 3 (.inl rfl), hn, decide_eq_true hv]; rfl
end Go.Proofs.YtiafggoaedifdaaGreatDoor.Fl
/- fber, plain: filters' trees, filters of trees; what is made, read, is that. No program. -/
namespace Go.Proofs.YtiafggoaedifdaaGreatDoor.Fb
open Go.Lib Fl Tl
set_option linter.unusedVariables false
def leafN (t : Int) (d : ByteArray) : Nd := .mk t d []
def pcsN (v : ByteArray) (a : List ByteArray) (f : ByteArray) : List Nd := (if v.size = 0 then [] else [leafN 128 v]) ++ (a.map (leafN 129) ++ if f.size = 0 then [] else [leafN 130 f])
mutual
def treeF : Flt → Nd
 | .mk k n v a f l =>
  if k = 7 then leafN 135 n
  else if k = 4 then .mk (160 + k) (bt' []) [leafN 4 n, .mk 48 (bt' []) (pcsN v a f)]
  else if k = 3 ∨ k = 5 ∨ k = 6 ∨ k = 8 then .mk (160 + k) (bt' []) [leafN 4 n, leafN 4 v]
  else .mk (160 + k) (bt' []) (treeFs l)
def treeFs : List Flt → List Nd
 | [] => []
 | x :: r => treeF x :: treeFs r
end
theorem treeFs_map : ∀ l : List Flt, treeFs l = l.map treeF
 | [] => rfl
 | x :: r => by rw [treeFs, treeFs_map r]; rfl
def kindsL : List (Int × Int) := [(160, 0), (161, 1), (162, 2), (163, 3), (164, 4), (165, 5), (166, 6), (135, 7), (168, 8)]
def kindOf (t : Int) : Option Int := (kindsL.find? fun p => p.1 == t).map (·.2)
def putN (s : ByteArray × List ByteArray × ByteArray) (x : Nd) : Option (ByteArray × List ByteArray × ByteArray) :=
 if x.data.size = 0 then none
 else if x.tag = 128 then (if s.1.size = 0 ∧ s.2.1 = [] ∧ s.2.2.size = 0 then some (x.data, s.2.1, s.2.2) else none)
 else if x.tag = 129 then (if s.2.2.size = 0 then some (s.1, s.2.1 ++ [x.data], s.2.2) else none)
 else if x.tag = 130 then (if s.2.2.size = 0 then some (s.1, s.2.1, x.data) else none)
 else none
def putsN : ByteArray × List ByteArray × ByteArray → List Nd → Option (ByteArray × List ByteArray × ByteArray)
 | s, [] => some s
 | s, x :: r => match putN s x with
  | some s' => putsN s' r
  | none => none
def allL {α β : Type} (g : α → Option β) : List α → Option (List β)
 | [] => some []
 | x :: r => match g x with
  | none => none
  | some y => match allL g r with
   | none => none
   | some ys => some (y :: ys)
def readF : Nat → Nd → Option Flt
 | 0, _ => none
 | m + 1, n => match kindOf n.tag with
  | none => none
  | some k =>
   if k = 7 then some (.mk 7 n.data (bt' []) [] (bt' []) [])
   else if k = 0 ∨ k = 1 ∨ k = 2 then (allL (readF m) n.kids).map fun l => .mk k (bt' []) (bt' []) [] (bt' []) l
   else match n.kids with
    | [x, y] => if x.tag = 4 then (if k = 4 then (putsN (bt' [], [], bt' []) y.kids).map fun s => .mk 4 x.data s.1 s.2.1 s.2.2 [] else some (.mk k x.data y.data [] (bt' []) [])) else none
    | _ => none
def wholeF (n : Nd) : Option Flt := match readF 6 n with
 | some f => if rightF 1 f = true ∧ sameN (treeF f) n = true then some f else none
 | none => none
theorem bt_nil {s : ByteArray} (h : s.size = 0) : s = bt' [] := size_zero h
theorem putN_leaf (v : ByteArray) (a : List ByteArray) (f : ByteArray) (t : Int) (d : ByteArray) : putN (v, a, f) (leafN t d) =
  if d.size = 0 then none
  else if t = 128 then (if v.size = 0 ∧ a = [] ∧ f.size = 0 then some (d, a, f) else none)
  else if t = 129 then (if f.size = 0 then some (v, a ++ [d], f) else none)
  else if t = 130 then (if f.size = 0 then some (v, a, d) else none)
  else none := rfl
theorem puts_any (v : ByteArray) : ∀ (a b : List ByteArray) (r : List Nd), (∀ s ∈ a, s.size ≠ 0) → putsN (v, b, bt' []) (a.map (leafN 129) ++ r) = putsN (v, b ++ a, bt' []) r
 | [], b, r, _ => by rw [List.map_nil, List.nil_append, List.append_nil]
 | s :: a, b, r, h => by
  have h1 := h s List.mem_cons_self
  rw [List.map_cons, List.cons_append, putsN]
  have : putN (v, b, bt' []) (leafN 129 s) = some (v, b ++ [s], bt' []) := by
   rw [putN_leaf, if_neg h1, if_neg (by decide), if_pos rfl, if_pos (by rfl)]
  rw [this]
  dsimp only
  rw [puts_any v a (b ++ [s]) r (fun x hx => h x (List.mem_cons_of_mem _ hx)), List.append_assoc]
  rfl
theorem puts_pcs (v : ByteArray) (a : List ByteArray) (f : ByteArray) (ha : ∀ s ∈ a, s.size ≠ 0) : putsN (bt' [], [], bt' []) (pcsN v a f) = some (v, a, f) := by
 unfold pcsN
 have h1 : ∀ r, putsN (bt' [], [], bt' []) ((if v.size = 0 then [] else [leafN 128 v]) ++ r) = putsN (v, [], bt' []) r := fun r => by
  by_cases hv : v.size = 0
  ·rw [if_pos hv, List.nil_append, bt_nil hv]
  ·rw [if_neg hv, List.singleton_append, putsN]
   have : putN (bt' [], [], bt' []) (leafN 128 v) = some (v, [], bt' []) := by
    rw [putN_leaf, if_neg hv, if_pos rfl, if_pos ⟨rfl, rfl, rfl⟩]
   rw [this]
 rw [h1, puts_any v a [] _ ha, List.nil_append]
 by_cases hf : f.size = 0
 ·rw [if_pos hf, bt_nil hf]; rfl
 ·rw [if_neg hf, putsN]
  have : putN (v, a, bt' []) (leafN 130 f) = some (v, a, f) := by
   rw [putN_leaf, if_neg hf, if_neg (by decide), if_neg (by decide), if_pos rfl, if_pos (by rfl)]
  rw [this]
  rfl
theorem any_ne {k : Int} {n v : ByteArray} {a : List ByteArray} {f : ByteArray} {l : List Flt} (hk : k = 4) (h : oneB (.mk k n v a f l) = true) : ∀ s ∈ a, s.size ≠ 0 := by
 subst hk
 unfold oneB at h
 dsimp only at h
 rw [if_neg (by decide), if_neg (by decide), if_pos rfl] at h
 simp only [Bool.and_eq_true, List.all_eq_true, decide_eq_true_eq] at h
 exact h.2.2.2
mutual
theorem read_tree : ∀ (m d : Nat) (f : Flt), d + m = 7 → rightF d f = true → readF m (treeF f) = some f
 | 0, d, .mk k n v a f l, hd, h => by
  have := (right_one h).1
  omega
 | m + 1, d, .mk k n v a f l, hd, h => by
  obtain ⟨_, h1, h2⟩ := right_one h
  rcases one_kind h1 with ⟨hk, rfl, rfl, rfl, rfl, _⟩ | ⟨hk, rfl, hn⟩
  ·have ht : treeF (.mk k (bt' []) (bt' []) [] (bt' []) l) = .mk (160 + k) (bt' []) (treeFs l) := by
    rw [treeF, if_neg (by omega), if_neg (by omega), if_neg (by omega)]
   have hko : kindOf (160 + k) = some k := by rcases hk with rfl | rfl | rfl <;> rfl
   rw [ht, readF]
   show (match kindOf (160 + k) with | none => none | some k => _) = _
   rw [hko]
   dsimp only
   rw [if_neg (by omega), if_pos hk]
   show (allL (readF m) (treeFs l)).map _ = _
   rw [reads_tree m (d + 1) l (by omega) h2]
   rfl
  ·by_cases h7 : k = 7
   ·subst h7
    have ht : treeF (.mk 7 n v a f []) = leafN 135 n := by rw [treeF, if_pos rfl]
    rw [ht, readF]
    show (match kindOf 135 with | none => none | some k => _) = _
    rw [show kindOf 135 = some 7 from rfl]
    dsimp only
    rw [if_pos rfl]
    unfold oneB at h1
    dsimp only at h1
    rw [if_neg (by decide), if_pos rfl] at h1
    unfold bareB at h1
    simp only [Bool.and_eq_true, decide_eq_true_eq, List.isEmpty_iff] at h1
    obtain ⟨_, e1, e2, e3⟩ := h1
    rw [bt_nil e1, e2, bt_nil e3]
    rfl
   ·by_cases h4 : k = 4
    ·subst h4
     have ht : treeF (.mk 4 n v a f []) = .mk 164 (bt' []) [leafN 4 n, .mk 48 (bt' []) (pcsN v a f)] := by rw [treeF, if_neg (by decide), if_pos rfl]; rfl
     rw [ht, readF]
     show (match kindOf 164 with | none => none | some k => _) = _
     rw [show kindOf 164 = some 4 from rfl]
     dsimp only
     rw [if_neg (by decide), if_neg (by decide)]
     show (if (4 : Int) = 4 then (if (4 : Int) = 4 then (putsN (bt' [], [], bt' []) (pcsN v a f)).map _ else _) else _) = _
     rw [if_pos rfl, if_pos rfl, puts_pcs v a f (any_ne rfl h1)]
     rfl
    ·have hk' : k = 3 ∨ k = 5 ∨ k = 6 ∨ k = 8 := by omega
     have ht : treeF (.mk k n v a f []) = .mk (160 + k) (bt' []) [leafN 4 n, leafN 4 v] := by rw [treeF, if_neg h7, if_neg h4, if_pos hk']
     have hko : kindOf (160 + k) = some k := by rcases hk' with rfl | rfl | rfl | rfl <;> rfl
     rw [ht, readF]
     show (match kindOf (160 + k) with | none => none | some k => _) = _
     rw [hko]
     dsimp only
     rw [if_neg h7, if_neg (by omega)]
     show (if (4 : Int) = 4 then (if k = 4 then _ else _) else _) = _
     rw [if_pos rfl, if_neg h4]
     unfold oneB at h1
     dsimp only at h1
     rw [if_neg (by omega), if_neg h7, if_neg h4, if_pos hk'] at h1
     simp only [Bool.and_eq_true, decide_eq_true_eq, List.isEmpty_iff] at h1
     obtain ⟨_, e2, e3⟩ := h1
     rw [e2, bt_nil e3]
     rfl
theorem reads_tree : ∀ (m d : Nat) (l : List Flt), d + m = 7 → rightFs d l = true → allL (readF m) (treeFs l) = some l
 | m, d, [], _, _ => rfl
 | m, d, x :: r, hd, h => by
  rw [rightFs, Bool.and_eq_true] at h
  rw [treeFs, allL, read_tree m d x hd h.1]
  dsimp only
  rw [reads_tree m d r hd h.2]
end
theorem whole_tree {f : Flt} (h : rightF 1 f = true) : wholeF (treeF f) = some f := by
 unfold wholeF
 rw [read_tree 6 1 f rfl h]
 dsimp only
 rw [if_pos ⟨h, sameN_refl _⟩]
theorem whole_spec {n : Nd} {f : Flt} (h : wholeF n = some f) : rightF 1 f = true ∧ treeF f = n := by
 unfold wholeF at h
 split at h
 ·split at h
  ·rename_i hc
   cases h
   exact ⟨hc.1, (sameN_iff _ _).1 hc.2⟩
  ·cases h
 ·cases h
theorem tree_inj {x y : Flt} (hx : rightF 1 x = true) (hy : rightF 1 y = true) (h : treeF x = treeF y) : x = y := by
 have h1 := whole_tree hx
 rw [h, whole_tree hy] at h1
 exact (Option.some.inj h1).symm
end Go.Proofs.YtiafggoaedifdaaGreatDoor.Fb
/- Values without memory: what a text computes with, how such a value lies in a world, that it lies so in later worlds. Of whatever program. No conditions. -/
namespace Go.Proofs.YtiafggoaedifdaaGreatDoor
open Go.RowKit
set_option linter.unusedVariables false
inductive V where
 | int (k : IntKind) (n : Int)
 | bool (b : Bool)
 | str (s : ByteArray)
 | agg (l : List V)
 | sl (xs : List (List V))
 | nils
 | nili
 | ifc (t : TypeId) (x : V)
 | raw (v : Value)
 | mp (ks vs : List V)
def V.nz1 : V → V
 | .nils => .sl []
 | x => x
def V.nz : V → V
 | .nils => .sl []
 | .agg l => .agg (l.map V.nz1)
 | x => x
abbrev Lv := Nat → Nat → Prop
def V.one : V → Bool
 | .agg _ => false
 | .raw v => v.oneCell'
 | _ => true
def V.cells : V → List V
 | .agg l => l
 | x => [x]
mutual
def Rep (w : World) (L : Lv) : V → Value → Prop
 | .int k n, v => v = .int k n
 | .bool b, v => v = .bool b
 | .str s, v => v = .string s
 | .nils, v => v = .slice none 0 0
 | .nili, v => v = .nilIface
 | .raw u, v => v = u
 | .mp ks vs, v => ∃ m es ck, v = .map (some m) ∧ w.heap[m]? = some (.map es ck) ∧ ((es.toList.map (·.born)).Nodup ∧ ∀ x ∈ es.toList, x.born < ck) ∧ RepW w L ks (es.toList.map (·.key)) ∧ RepW w L vs (es.toList.map (·.val))
 | .ifc t x, v => ∃ u, v = .iface t u ∧ Rep w L x u
 | .agg l, v => ∃ cs, v = .agg cs ∧ RepL w L l cs.toList
 | .sl xs, v => ∃ A c, v = .slice A xs.length c ∧ xs.length ≤ c ∧ (xs ≠ [] → ∃ b o e, A = some ⟨b, o, none⟩ ∧ RepE w L b e o xs)
def RepW (w : World) (L : Lv) : List V → List Value → Prop
 | [], cs => cs = []
 | x :: xs, cs => ∃ u us, cs = u :: us ∧ Rep w L x u ∧ RepW w L xs us
def RepL (w : World) (L : Lv) : List V → List Value → Prop
 | [], cs => cs = []
 | x :: xs, cs => ∃ u us, cs = u :: us ∧ x.one = true ∧ Rep w L x u ∧ RepL w L xs us
def RepC (w : World) (L : Lv) (b : Nat) : Nat → List V → Prop
 | _, [] => True
 | o, x :: xs => (∃ u, L b o ∧ w.cell? ⟨b, o, none⟩ = some u ∧ x.one = true ∧ Rep w L x u) ∧ RepC w L b (o + 1) xs
def RepE (w : World) (L : Lv) (b e : Nat) : Nat → List (List V) → Prop
 | _, [] => True
 | o, c :: xs => c.length = e ∧ RepC w L b o c ∧ RepE w L b e (o + e) xs
end
def isMapO : Obj → Bool
 | .map _ _ => true
 | _ => false
def MapsK (w w' : World) : Prop := ∀ (k : Nat) (o : Obj), w.heap[k]? = some o → isMapO o = true → w'.heap[k]? = some o
theorem MapsK.refl (w : World) : MapsK w w := fun _ _ h _ => h
theorem MapsK.trans {a b c : World} (h : MapsK a b) (k : MapsK b c) : MapsK a c := fun i o h1 h2 => k i o (h i o h1 h2) h2
theorem MapsK.of_below {w w' : World} (h : Below w.heap.size w w') : MapsK w w' := fun k o h1 _ => (h.block k (Array.getElem?_eq_some_iff.1 h1).1).trans h1
theorem MapsK.of_grown {w w' : World} {f : Nat} (h : w.grownBy w' (some f)) (hf : ∀ o, w.heap[f]? = some o → isMapO o = false) : MapsK w w' := fun k o h1 h2 => by
 by_cases e : k = f
 ·subst e; rw [hf o h1] at h2; cases h2
 ·exact (h.block k (Array.getElem?_eq_some_iff.1 h1).1 (by simpa using e)).trans h1
structure Same (L : Lv) (w : World) (L' : Lv) (w' : World) : Prop where
 c : ∀ b o u, L b o → w.cell? ⟨b, o, none⟩ = some u → L' b o ∧ w'.cell? ⟨b, o, none⟩ = some u
 m : MapsK w w'
mutual
theorem Rep.mono {w w' : World} {L L' : Lv} (h : Same L w L' w') : ∀ (x : V) (v : Value), Rep w L x v → Rep w' L' x v
 | .int _ _, _, r => r
 | .bool _, _, r => r
 | .str _, _, r => r
 | .nils, _, r => r
 | .nili, _, r => r
 | .raw _, _, r => r
 | .mp ks vs, _, ⟨m, es, ck, e, hm, hb, r1, r2⟩ => ⟨m, es, ck, e, h.m m _ hm rfl, hb, RepW.mono h ks _ r1, RepW.mono h vs _ r2⟩
 | .ifc _ x, _, ⟨u, e, r⟩ => ⟨u, e, Rep.mono h x u r⟩
 | .agg l, _, ⟨cs, e, r⟩ => ⟨cs, e, RepL.mono h l _ r⟩
 | .sl xs, _, ⟨A, c, e, hl, hx⟩ => ⟨A, c, e, hl, fun hn => let ⟨b, o, k, ha, r⟩ := hx hn; ⟨b, o, k, ha, RepE.mono h b k xs o r⟩⟩
theorem RepW.mono {w w' : World} {L L' : Lv} (h : Same L w L' w') : ∀ (l : List V) (cs : List Value), RepW w L l cs → RepW w' L' l cs
 | [], _, r => r
 | x :: xs, _, ⟨u, us, e, r, rs⟩ => ⟨u, us, e, Rep.mono h x u r, RepW.mono h xs us rs⟩
theorem RepL.mono {w w' : World} {L L' : Lv} (h : Same L w L' w') : ∀ (l : List V) (cs : List Value), RepL w L l cs → RepL w' L' l cs
 | [], _, r => r
 | x :: xs, _, ⟨u, us, e, h1, r, rs⟩ => ⟨u, us, e, h1, Rep.mono h x u r, RepL.mono h xs us rs⟩
theorem RepC.mono {w w' : World} {L L' : Lv} (h : Same L w L' w') (b : Nat) : ∀ (l : List V) (o : Nat), RepC w L b o l → RepC w' L' b o l
 | [], _, _ => trivial
 | x :: xs, o, ⟨⟨u, hL, hc, h1, r⟩, rs⟩ => ⟨⟨u, (h.c b o u hL hc).1, (h.c b o u hL hc).2, h1, Rep.mono h x u r⟩, RepC.mono h b xs (o + 1) rs⟩
theorem RepE.mono {w w' : World} {L L' : Lv} (h : Same L w L' w') (b e : Nat) : ∀ (xs : List (List V)) (o : Nat), RepE w L b e o xs → RepE w' L' b e o xs
 | [], _, _ => trivial
 | c :: xs, o, ⟨hl, rc, rs⟩ => ⟨hl, RepC.mono h b c o rc, RepE.mono h b e xs (o + e) rs⟩
end
theorem Same.refl (L : Lv) (w : World) : Same L w L w := ⟨fun _ _ _ h k => ⟨h, k⟩, .refl _⟩
theorem Same.trans {L L1 L2 : Lv} {w w1 w2 : World} (h : Same L w L1 w1) (k : Same L1 w1 L2 w2) : Same L w L2 w2 := ⟨fun b o u h1 h2 => let ⟨a, c⟩ := h.c b o u h1 h2; k.c b o u a c, h.m.trans k.m⟩
theorem Same.of_below {L : Lv} {w w' : World} (h : Below w.heap.size w w') : Same L w L w' := ⟨fun _ _ _ h1 h2 => ⟨h1, cell_below h2 h⟩, .of_below h⟩
theorem RepW.length {w : World} {L : Lv} : ∀ {l : List V} {cs : List Value}, RepW w L l cs → cs.length = l.length
 | [], _, r => by obtain rfl : _ = [] := r; rfl
 | x :: xs, _, ⟨u, us, e, _, rs⟩ => by rw [e, List.length_cons, List.length_cons, rs.length]
theorem RepL.length {w : World} {L : Lv} : ∀ {l : List V} {cs : List Value}, RepL w L l cs → cs.length = l.length
 | [], _, r => by obtain rfl : _ = [] := r; rfl
 | x :: xs, _, ⟨u, us, e, _, _, rs⟩ => by rw [e, List.length_cons, List.length_cons, rs.length]
theorem RepL.get {w : World} {L : Lv} : ∀ {l : List V} {cs : List Value} {i : Nat} {x : V}, RepL w L l cs → l[i]? = some x → ∃ u, cs[i]? = some u ∧ x.one = true ∧ Rep w L x u
 | [], _, _, _, _, h => by simp at h
 | y :: xs, _, 0, x, ⟨u, us, e, h1, r, _⟩, h => by simp at h; subst h; exact ⟨u, by rw [e]; rfl, h1, r⟩
 | y :: xs, _, i + 1, x, ⟨u, us, e, _, _, rs⟩, h => by
  obtain ⟨z, hz, h1, r⟩ := rs.get (i := i) (by simpa using h)
  exact ⟨z, by rw [e]; simpa using hz, h1, r⟩
theorem RepL.append {w : World} {L : Lv} : ∀ {l m : List V} {cs ds : List Value}, RepL w L l cs → RepL w L m ds → RepL w L (l ++ m) (cs ++ ds)
 | [], m, _, ds, h, k => by rw [show _ = [] from h]; exact k
 | x :: xs, m, _, ds, ⟨u, us, e, h1, r, rs⟩, k => ⟨u, us ++ ds, by rw [e]; rfl, h1, r, rs.append k⟩
theorem RepL.drop {w : World} {L : Lv} : ∀ {l : List V} {cs : List Value} (n : Nat), RepL w L l cs → RepL w L (l.drop n) (cs.drop n)
 | _, _, 0, h => by simpa using h
 | [], _, n + 1, h => by rw [show _ = [] from h]; simp [RepL]
 | x :: xs, _, n + 1, ⟨u, us, e, _, _, rs⟩ => by rw [e]; simpa using rs.drop n
theorem RepL.take {w : World} {L : Lv} : ∀ {l : List V} {cs : List Value} (n : Nat), RepL w L l cs → RepL w L (l.take n) (cs.take n)
 | _, _, 0, _ => by simp [RepL]
 | [], _, n + 1, h => by rw [show _ = [] from h]; simp [RepL]
 | x :: xs, _, n + 1, ⟨u, us, e, h1, r, rs⟩ => by rw [e]; exact ⟨u, us.take n, rfl, h1, r, rs.take n⟩
theorem RepL.ones {w : World} {L : Lv} : ∀ {l : List V} {cs : List Value}, RepL w L l cs → ∀ x ∈ l, x.one = true
 | [], _, _, x, hx => by cases hx
 | y :: xs, _, ⟨u, us, _, h1, _, rs⟩, x, hx => by
  rcases List.mem_cons.1 hx with rfl | hx
  ·exact h1
  ·exact rs.ones x hx
theorem RepC.get {w : World} {L : Lv} {b : Nat} : ∀ {l : List V} {o i : Nat} {x : V}, RepC w L b o l → l[i]? = some x → ∃ u, L b (o + i) ∧ w.cell? ⟨b, o + i, none⟩ = some u ∧ x.one = true ∧ Rep w L x u
 | [], _, _, _, _, h => by simp at h
 | y :: xs, o, 0, x, ⟨h0, _⟩, h => by simp at h; subst h; exact h0
 | y :: xs, o, i + 1, x, ⟨_, hs⟩, h => by
  have := hs.get (i := i) (by simpa using h)
  rwa [show o + 1 + i = o + (i + 1) by omega] at this
theorem RepC.of_get {w : World} {L : Lv} {b : Nat} : ∀ (l : List V) (o : Nat), (∀ i x, l[i]? = some x → ∃ u, L b (o + i) ∧ w.cell? ⟨b, o + i, none⟩ = some u ∧ x.one = true ∧ Rep w L x u) → RepC w L b o l
 | [], _, _ => trivial
 | y :: xs, o, h => ⟨h 0 y rfl, RepC.of_get xs (o + 1) fun i x hx => by have := h (i + 1) x (by simpa using hx); rwa [show o + 1 + i = o + (i + 1) by omega]⟩
theorem RepC.drop {w : World} {L : Lv} {b o : Nat} {l : List V} (h : RepC w L b o l) (n : Nat) : RepC w L b (o + n) (l.drop n) :=
 RepC.of_get _ _ fun i x hx => by
  rw [List.getElem?_drop] at hx
  have := h.get hx
  rwa [show o + n + i = o + (n + i) by omega]
theorem RepC.take {w : World} {L : Lv} {b o : Nat} {l : List V} (h : RepC w L b o l) (n : Nat) : RepC w L b o (l.take n) :=
 RepC.of_get _ _ fun i x hx => by
  rw [List.getElem?_take] at hx
  split at hx
  ·exact h.get hx
  ·cases hx
theorem RepC.vals {w : World} {L : Lv} {b : Nat} : ∀ {l : List V} {o : Nat}, RepC w L b o l → ∃ cs : List Value, cs.length = l.length ∧ RepL w L l cs ∧ ∀ i u, cs[i]? = some u → w.cell? ⟨b, o + i, none⟩ = some u
 | [], _, _ => ⟨[], rfl, rfl, fun i u h => by simp at h⟩
 | x :: xs, o, ⟨⟨u, _, hc, h1, r⟩, rs⟩ => by
  obtain ⟨cs, hl, hr, hg⟩ := rs.vals
  refine ⟨u :: cs, by simp [hl], ⟨u, cs, rfl, h1, r, hr⟩, fun i z hz => ?_⟩
  cases i with
  | zero => simp at hz; subst hz; exact hc
  | succ i => have := hg i z (by simpa using hz); rwa [show o + 1 + i = o + (i + 1) by omega] at this
theorem RepE.get {w : World} {L : Lv} {b e : Nat} : ∀ {xs : List (List V)} {o i : Nat} {c : List V}, RepE w L b e o xs → xs[i]? = some c → c.length = e ∧ RepC w L b (o + i * e) c
 | [], _, _, _, _, h => by simp at h
 | y :: xs, o, 0, c, ⟨hl, hc, _⟩, h => by simp at h; subst h; exact ⟨hl, by simpa using hc⟩
 | y :: xs, o, i + 1, c, ⟨_, _, hs⟩, h => by
  have := hs.get (i := i) (by simpa using h)
  rwa [show o + e + i * e = o + (i + 1) * e by rw [Nat.add_mul]; omega] at this
theorem RepE.of_get {w : World} {L : Lv} {b e : Nat} : ∀ (xs : List (List V)) (o : Nat), (∀ i c, xs[i]? = some c → c.length = e ∧ RepC w L b (o + i * e) c) → RepE w L b e o xs
 | [], _, _ => trivial
 | y :: xs, o, h => ⟨(h 0 y rfl).1, by simpa using (h 0 y rfl).2, RepE.of_get xs (o + e) fun i c hc => by
   have := h (i + 1) c (by simpa using hc)
   rwa [show o + e + i * e = o + (i + 1) * e by rw [Nat.add_mul]; omega]⟩
theorem RepE.drop {w : World} {L : Lv} {b e o : Nat} {xs : List (List V)} (h : RepE w L b e o xs) (n : Nat) : RepE w L b e (o + n * e) (xs.drop n) :=
 RepE.of_get _ _ fun i c hc => by
  rw [List.getElem?_drop] at hc
  have := h.get hc
  rwa [show o + n * e + i * e = o + (n + i) * e by rw [Nat.add_mul]; omega]
theorem RepE.take {w : World} {L : Lv} {b e o : Nat} {xs : List (List V)} (h : RepE w L b e o xs) (n : Nat) : RepE w L b e o (xs.take n) :=
 RepE.of_get _ _ fun i c hc => by
  rw [List.getElem?_take] at hc
  split at hc
  ·exact h.get hc
  ·cases hc
theorem RepE.append {w : World} {L : Lv} {b e o : Nat} {xs ys : List (List V)} (h : RepE w L b e o xs) (k : RepE w L b e (o + xs.length * e) ys) : RepE w L b e o (xs ++ ys) :=
 RepE.of_get _ _ fun i c hc => by
  by_cases hi : i < xs.length
  ·rw [List.getElem?_append_left hi] at hc; exact h.get hc
  ·rw [List.getElem?_append_right (by omega)] at hc
   have := k.get hc
   rwa [show o + xs.length * e + (i - xs.length) * e = o + i * e by rw [Nat.add_assoc, ← Nat.add_mul]; congr 2; omega] at this
theorem RepE.vals {w : World} {L : Lv} {b e : Nat} : ∀ {xs : List (List V)} {o : Nat}, RepE w L b e o xs → ∃ cs : List Value, cs.length = xs.length * e ∧ (∀ i c, xs[i]? = some c → RepL w L c ((cs.drop (i * e)).take e)) ∧ ∀ i u, cs[i]? = some u → w.cell? ⟨b, o + i, none⟩ = some u
 | [], _, _ => ⟨[], by simp, fun i c h => by simp at h, fun i u h => by simp at h⟩
 | x :: xs, o, ⟨hl, hc, hs⟩ => by
  obtain ⟨c1, hl1, hr1, hg1⟩ := hc.vals
  obtain ⟨c2, hl2, hr2, hg2⟩ := hs.vals
  refine ⟨c1 ++ c2, by rw [List.length_append, hl1, hl, hl2, List.length_cons, Nat.add_mul]; omega, fun i c hi => ?_, fun i u hu => ?_⟩
  ·cases i with
   | zero =>
    simp at hi; subst hi
    simp only [Nat.zero_mul, List.drop_zero]
    rw [List.take_append_of_le_length (by omega), List.take_of_length_le (by omega)]
    exact hr1
   | succ i =>
    have := hr2 i c (by simpa using hi)
    rw [List.drop_append]
    rw [List.drop_eq_nil_of_le (by rw [hl1, hl, Nat.add_mul]; omega), List.nil_append, show (i + 1) * e - c1.length = i * e by rw [hl1, hl, Nat.add_mul]; omega]
    exact this
  ·by_cases hi : i < c1.length
   ·rw [List.getElem?_append_left hi] at hu; exact hg1 i u hu
   ·rw [List.getElem?_append_right (by omega)] at hu
    have := hg2 _ u hu
    rwa [show o + e + (i - c1.length) = o + i by omega] at this
theorem RepL.one_vals {w : World} {L : Lv} : ∀ {l : List V} {cs : List Value}, RepL w L l cs → ∀ u ∈ cs, u.oneCell' = true
 | [], _, r, u, hu => by rw [show _ = [] from r] at hu; cases hu
 | x :: xs, _, ⟨v, us, e, h1, r, rs⟩, u, hu => by
  rw [e] at hu
  rcases List.mem_cons.1 hu with rfl | hu
  ·cases x with
   | agg l => cases h1
   | int k n => rw [show _ = _ from r]; rfl
   | bool k => rw [show _ = _ from r]; rfl
   | str k => rw [show _ = _ from r]; rfl
   | nils => rw [show _ = _ from r]; rfl
   | nili => rw [show _ = _ from r]; rfl
   | raw v => rw [show _ = _ from r]; exact h1
   | mp ks vs => obtain ⟨_, _, _, rfl, _⟩ := r; rfl
   | ifc t x => obtain ⟨z, rfl, _⟩ := r; rfl
   | sl xs => obtain ⟨A, c, rfl, _⟩ := r; rfl
  ·exact rs.one_vals u hu
theorem Rep.one_val {w : World} {L : Lv} {x : V} {v : Value} (h1 : x.one = true) (h : Rep w L x v) : v.oneCell' = true :=
 RepL.one_vals (l := [x]) (cs := [v]) ⟨v, [], rfl, h1, h, rfl⟩ v (by simp)
theorem nz1_rep {w : World} {L : Lv} {x : V} {v : Value} (h : Rep w L x v) : Rep w L x.nz1 v := by
 cases x with
 | nils => exact ⟨none, 0, h, Nat.le_refl _, fun e => absurd rfl e⟩
 | _ => exact h
theorem nz1_one (x : V) (h : x.one = true) : x.nz1.one = true := by
 cases x with
 | nils => rfl
 | _ => exact h
theorem nzL_rep {w : World} {L : Lv} : ∀ {l : List V} {cs : List Value}, RepL w L l cs → RepL w L (l.map V.nz1) cs
 | [], _, h => h
 | x :: r, _, ⟨u, us, e, h1, h2, h3⟩ => ⟨u, us, e, nz1_one x h1, nz1_rep h2, nzL_rep h3⟩
theorem nz_rep {w : World} {L : Lv} {x : V} {v : Value} (h : Rep w L x v) : Rep w L x.nz v := by
 cases x with
 | nils => exact ⟨none, 0, h, Nat.le_refl _, fun e => absurd rfl e⟩
 | agg l => obtain ⟨cs, e, r⟩ := h; exact ⟨cs, e, nzL_rep r⟩
 | _ => exact h
end Go.Proofs.YtiafggoaedifdaaGreatDoor
