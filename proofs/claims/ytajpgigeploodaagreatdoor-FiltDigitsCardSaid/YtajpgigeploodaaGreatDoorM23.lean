/- Several texts, one behind the other. filt, plain: a right filter's text, read, is that filter. No program. filt, plain: the same filters, all filters in one, their names, how deep they stand. No program. Between two ways of telling how a slice lies: views, and values without memory. Whatever program; a function's contract told in one way, told in the other one. Contracts of functions of Go's library, as the kit's shelf proves them of whatever program, at this program's numbers. Each states its own conditions. Contracts of functions of Go's library, as the kit's shelf proves them of whatever program, at this program's numbers. Each states its own conditions. -/
import Derived.Test.YtajpgigeploodaaGreatDoorM22
import Derived.Test.YtajpgigeploodaaGreatDoorM11
import Derived.Test.YtajpgigeploodaaGreatDoorM13
import Derived.Test.YtajpgigeploodaaGreatDoorM14
import Derived.Shelf.Strings.Search3
import Derived.Shelf.Strings.Cut
import Derived.Shelf.Strings.Split
import Derived.Test.YtajpgigeploodaaGreatDoorProg
import Derived.Shelf.GgClosure.StringsIndexFuncTop
/- filt, plain: a right filter's text, read, is that filter. No program. -/
namespace Go.Proofs.YtajpgigeploodaaGreatDoor.Fl
open Go.Lib
set_option linter.unusedVariables false
theorem esc_no (v : List UInt8) (b : UInt8) (hb : b ∈ escF v) : b ≠ 42 ∧ b ≠ 40 ∧ b ≠ 41 := flat_signs Prints.esc v b hb
theorem split_stars : ∀ (l : List ByteArray) (f : ByteArray), Txt.splitOn 42 ((l.flatMap fun s => escF (bl s) ++ [42]) ++ escF (bl f)) = l.map (fun s => escF (bl s)) ++ [escF (bl f)]
  | [], f => split_none 42 _ (fun h => (esc_no _ _ h).1 rfl)
  | x :: t, f => by
    rw [List.flatMap_cons, List.append_assoc, List.append_assoc]
    show Txt.splitOn 42 (escF (bl x) ++ 42 :: ((t.flatMap fun s => escF (bl s) ++ [42]) ++ escF (bl f))) = _
    rw [split_here 42 _ _ (fun h => (esc_no _ _ h).1 rfl), split_stars t f]; rfl
theorem allM_esc : ∀ l : List ByteArray, Dn.allM readV (l.map fun s => escF (bl s)) = some l := fun l => Dn.allM_map readV (fun s => escF (bl s)) l (fun s _ => readV_esc s)
theorem size_of_all {a : List ByteArray} (h : a = []) : a.isEmpty = true := by rw [h]; rfl
/-- the text of a filter with a name, between its signs -/
theorem item_print (k : Int) (n v : ByteArray) (a : List ByteArray) (f : ByteArray) (hk : k = 3 ∨ k = 4 ∨ k = 5 ∨ k = 6 ∨ k = 7 ∨ k = 8) (h : oneB (.mk k n v a f []) = true) : itemF (bl n ++ midB k v a f) = some (.mk k n v a f []) ∧ (∀ b ∈ bl n ++ midB k v a f, b ≠ 41) ∧ nameB (bl n) = true := by
  unfold oneB at h
  dsimp only at h
  rw [if_neg (by omega)] at h
  by_cases h7 : k = 7
  · subst h7
    rw [if_pos rfl] at h
    unfold namedB bareB at h
    simp only [Bool.and_eq_true, decide_eq_true_eq, List.isEmpty_iff] at h
    obtain ⟨⟨hn, _⟩, hv, ha, hf⟩ := h
    have hb := name_bytes hn
    have e61 : (61 : UInt8) ∉ bl n := fun hm => (nameByte_ne (hb _ hm)).1 rfl
    refine ⟨?_, fun b hb2 => ?_, hn⟩
    · unfold itemF midB
      rw [if_pos rfl, cutL_here 61 [42] (bl n) e61]
      dsimp only
      rw [end_name hn, if_pos ⟨rfl, by decide⟩, if_pos rfl, size_zero hv, ha, size_zero hf]; rfl
    · unfold midB at hb2
      rw [if_pos rfl] at hb2
      rcases List.mem_append.1 hb2 with hb2 | hb2
      · exact (nameByte_ne (hb _ hb2)).2.1
      · simp at hb2; rcases hb2 with rfl | rfl <;> decide
  rw [if_neg h7] at h
  by_cases h4 : k = 4
  · subst h4
    rw [if_pos rfl] at h
    unfold namedB at h
    simp only [Bool.and_eq_true, decide_eq_true_eq] at h
    obtain ⟨⟨hn, _⟩, hbare, _, hany⟩ := h
    have hb := name_bytes hn
    have e61 : (61 : UInt8) ∉ bl n := fun hm => (nameByte_ne (hb _ hm)).1 rfl
    obtain ⟨val, hval⟩ : ∃ val, val = ((v :: a).flatMap fun s => escF (bl s) ++ [42]) ++ escF (bl f) := ⟨_, rfl⟩
    have hmid : midB 4 v a f = 61 :: val := by unfold midB; rw [if_neg (by decide), if_pos rfl, hval]; rfl
    have hstar : (42 : UInt8) ∈ val := by
      rw [hval, List.flatMap_cons]; simp
    have hne : val ≠ [42] := by
      intro e
      have hs := split_stars (v :: a) f
      rw [← hval, e] at hs
      have e2 : Txt.splitOn 42 [42] = [[], []] := by decide
      rw [e2] at hs
      cases a with
      | cons x t => simp at hs
      | nil =>
        simp at hs
        obtain ⟨hs1, hs2⟩ := hs
        have hv := readV_esc v
        have hf := readV_esc f
        rw [hs1] at hv
        rw [hs2] at hf
        have : readV [] = some (bt' []) := by
          have := readV_esc (bt' [])
          rwa [bl_of] at this
        rw [this] at hv hf
        cases hv; cases hf
        have : bareB (bt' []) [] (bt' []) = true := by decide
        rw [this] at hbare; cases hbare
    refine ⟨?_, fun b hb2 => ?_, hn⟩
    · rw [hmid]
      unfold itemF
      rw [cutL_here 61 val (bl n) e61]
      dsimp only
      rw [end_name hn, if_pos ⟨rfl, List.contains_iff_mem.2 hstar⟩, if_neg hne, hval, split_stars (v :: a) f]
      have := allM_esc ((v :: a) ++ [f])
      rw [List.map_append] at this
      rw [show (v :: a).map (fun s => escF (bl s)) ++ [escF (bl f)] = (v :: a).map (fun s => escF (bl s)) ++ [f].map (fun s => escF (bl s)) from rfl, this]
      show some (Flt.mk 4 (bt' (bl n)) v (a ++ [f]).dropLast ((a ++ [f]).getLast?.getD (bt' [])) []) = _
      rw [List.dropLast_concat, List.getLast?_concat]; rfl
    · rcases List.mem_append.1 hb2 with hb2 | hb2
      · exact (nameByte_ne (hb _ hb2)).2.1
      · rw [hmid, hval] at hb2
        rcases List.mem_cons.1 hb2 with rfl | hb2
        · decide
        · rcases List.mem_append.1 hb2 with hb2 | hb2
          · obtain ⟨s, _, hs⟩ := List.mem_flatMap.1 hb2
            rcases List.mem_append.1 hs with hs | hs
            · exact (esc_no _ _ hs).2.2
            · rw [List.mem_singleton] at hs; rw [hs]; decide
          · exact (esc_no _ _ hb2).2.2
  rw [if_neg h4, if_pos (by omega)] at h
  unfold namedB at h
  simp only [Bool.and_eq_true, decide_eq_true_eq, List.isEmpty_iff] at h
  obtain ⟨⟨hn, _⟩, ha, hf⟩ := h
  have hb := name_bytes hn
  have e61 : (61 : UInt8) ∉ bl n := fun hm => (nameByte_ne (hb _ hm)).1 rfl
  have hnv : (escF (bl v)).contains 42 = false := by
    cases hc : (escF (bl v)).contains 42
    · rfl
    · exact absurd rfl (esc_no _ _ (List.contains_iff_mem.1 hc)).1
  have hmid : midB k v a f = signB k ++ escF (bl v) := by unfold midB; rw [if_neg h7, if_neg h4]
  have hsg : ∃ c : List UInt8, signB k = c ++ [61] ∧ (61 : UInt8) ∉ c ∧ (∀ b ∈ c, b ≠ 41) ∧ endK (bl n ++ c) = (k, bl n) := by
    rcases hk with rfl | rfl | rfl | rfl | rfl | rfl
    · exact ⟨[], rfl, by simp, by simp, by rw [List.append_nil]; exact end_name hn⟩
    · exact absurd rfl h4
    · exact ⟨[62], rfl, by decide, by decide, end_sign _ _ _ (.inl ⟨rfl, rfl⟩)⟩
    · exact ⟨[60], rfl, by decide, by decide, end_sign _ _ _ (.inr (.inl ⟨rfl, rfl⟩))⟩
    · exact absurd rfl h7
    · exact ⟨[126], rfl, by decide, by decide, end_sign _ _ _ (.inr (.inr ⟨rfl, rfl⟩))⟩
  obtain ⟨c, c1, c2, c3, c4⟩ := hsg
  refine ⟨?_, fun b hb2 => ?_, hn⟩
  · rw [hmid, c1]
    unfold itemF
    rw [show bl n ++ (c ++ [61] ++ escF (bl v)) = (bl n ++ c) ++ 61 :: escF (bl v) by simp, cutL_here 61 _ _ (by
      intro hm
      rcases List.mem_append.1 hm with hm | hm
      · exact e61 hm
      · exact c2 hm)]
    dsimp only
    rw [hnv, if_neg (by simp), readV_esc, c4, ha, size_zero hf]
    rfl
  · rcases List.mem_append.1 hb2 with hb2 | hb2
    · exact (nameByte_ne (hb _ hb2)).2.1
    · rw [hmid, c1] at hb2
      rcases List.mem_append.1 hb2 with hb2 | hb2
      · rcases List.mem_append.1 hb2 with hb2 | hb2
        · exact c3 b hb2
        · rw [List.mem_singleton] at hb2; rw [hb2]; decide
      · exact (esc_no _ _ hb2).2.2
theorem one_kind {k : Int} {n v : ByteArray} {a : List ByteArray} {f : ByteArray} {l : List Flt} (h : oneB (.mk k n v a f l) = true) : ((k = 0 ∨ k = 1 ∨ k = 2) ∧ n = bt' [] ∧ v = bt' [] ∧ a = [] ∧ f = bt' [] ∧ 1 ≤ l.length ∧ l.length ≤ 8) ∨ ((k = 3 ∨ k = 4 ∨ k = 5 ∨ k = 6 ∨ k = 7 ∨ k = 8) ∧ l = [] ∧ nameB (bl n) = true) := by
  unfold oneB at h
  dsimp only at h
  by_cases h0 : k = 0 ∨ k = 1 ∨ k = 2
  · rw [if_pos h0] at h
    unfold bareB at h
    simp only [Bool.and_eq_true, decide_eq_true_eq, List.isEmpty_iff] at h
    obtain ⟨h1, ⟨h2, h3, h4⟩, h5, h6, _⟩ := h
    exact .inl ⟨h0, size_zero h1, size_zero h2, h3, size_zero h4, h5, h6⟩
  · rw [if_neg h0] at h
    right
    by_cases h7 : k = 7
    · rw [if_pos h7] at h
      unfold namedB at h
      simp only [Bool.and_eq_true, List.isEmpty_iff] at h
      exact ⟨by omega, h.1.2.1, h.1.1⟩
    · rw [if_neg h7] at h
      by_cases h4 : k = 4
      · rw [if_pos h4] at h
        unfold namedB at h
        simp only [Bool.and_eq_true, List.isEmpty_iff] at h
        exact ⟨by omega, h.1.2.1, h.1.1⟩
      · rw [if_neg h4] at h
        by_cases h3 : k = 3 ∨ k = 5 ∨ k = 6 ∨ k = 8
        · rw [if_pos h3] at h
          unfold namedB at h
          simp only [Bool.and_eq_true, List.isEmpty_iff] at h
          exact ⟨by omega, h.1.2.1, h.1.1⟩
        · rw [if_neg h3] at h; cases h
theorem prF_head (f : Flt) : ∃ t, prF f = 40 :: t := by cases f; exact ⟨_, rfl⟩
theorem prFs_len : ∀ l : List Flt, l.length ≤ (prFs l).length
  | [] => Nat.le_refl _
  | x :: r => by
    obtain ⟨t, ht⟩ := prF_head x
    have := prFs_len r
    rw [prFs, ht, List.length_append, List.length_cons, List.length_cons]; omega
theorem right_one {d : Nat} {f : Flt} (h : rightF d f = true) : d ≤ 6 ∧ oneB f = true ∧ rightFs (d + 1) f.l = true := by
  obtain ⟨k, n, v, a, fi, l⟩ := f
  rw [rightF] at h
  simp only [Bool.and_eq_true, decide_eq_true_eq] at h
  exact ⟨h.1, h.2.1, h.2.2⟩
theorem rights_mem : ∀ {l : List Flt} {d : Nat}, rightFs d l = true → ∀ x ∈ l, rightF d x = true
  | [], _, _, x, hx => by cases hx
  | y :: r, d, h, x, hx => by
    rw [rightFs, Bool.and_eq_true] at h
    rcases List.mem_cons.1 hx with rfl | hx
    · exact h.1
    · exact rights_mem h.2 x hx
theorem rdF_item (d : Nat) (c : UInt8) (r : List UInt8) (h : c ≠ 38 ∧ c ≠ 124 ∧ c ≠ 33) : rdF (d + 1) (40 :: c :: r) = match cutL 41 (c :: r) with
    | some (s, t) => (itemF s).map fun f => (f, t)
    | none => none := by
  rw [rdF.eq_def]
  dsimp only
  split
  · rename_i r' e
    injection e with _ e
    subst e
    split
    · rename_i e; injection e with e _; exact absurd e h.1
    · rename_i e; injection e with e _; exact absurd e h.2.1
    · rename_i e; injection e with e _; exact absurd e h.2.2
    · rfl
  · rename_i e; exact (e _ rfl).elim
/-- WHAT IS PRINTED, READ -/
theorem rd_print : ∀ (d : Nat) (f : Flt) (t : List UInt8), d ≤ 6 → rightF (7 - d) f = true → rdF d (prF f ++ t) = some (f, t)
  | 0, f, t, _, h => by
    have := (right_one h).1
    omega
  | d + 1, .mk k n v a fi l, t, hd, h => by
    obtain ⟨_, h1, h2⟩ := right_one h
    dsimp only [Flt.l] at h2
    rw [show 7 - (d + 1) + 1 = 7 - d by omega] at h2
    rcases one_kind h1 with ⟨hk, rfl, rfl, rfl, rfl, hl1, _⟩ | ⟨hk, rfl, hn⟩
    · have hloop : ∀ (l : List Flt) (m : Nat), rightFs (7 - d) l = true → l.length < m → loopL (rdF d) m (prFs l ++ 41 :: t) = some (l, 41 :: t) := by
        intro l
        induction l with
        | nil =>
          intro m _ hm
          obtain ⟨m, rfl⟩ : ∃ q, m = q + 1 := ⟨m - 1, by simp at hm; omega⟩
          rfl
        | cons x r ih =>
          intro m hr hm
          rw [rightFs, Bool.and_eq_true] at hr
          obtain ⟨m, rfl⟩ : ∃ q, m = q + 1 := ⟨m - 1, by simp at hm; omega⟩
          have hx := rd_print d x (prFs r ++ 41 :: t) (by omega) hr.1
          rw [prFs, List.append_assoc]
          obtain ⟨y, hy⟩ := prF_head x
          rw [hy] at hx ⊢
          rw [List.cons_append] at hx ⊢
          rw [loopL, hx]
          simp only [ih m hr.2 (by simp at hm; omega)]
          rfl
      have hset : ∀ k, setK (rdF d) k (prFs l ++ 41 :: t) = some (.mk k (bt' []) (bt' []) [] (bt' []) l, t) := fun k => by
        unfold setK
        rw [hloop l _ h2 (by have := prFs_len l; rw [List.length_append, List.length_cons]; omega)]
        rfl
      have he : escF (bl (bt' [])) = [] := rfl
      rw [prF]
      have e0 : ∀ c : List UInt8, 40 :: (bl (bt' []) ++ (c ++ []) ++ prFs l ++ [41]) ++ t = 40 :: (c ++ (prFs l ++ 41 :: t)) := fun c => by simp [bl_of]
      rcases hk with rfl | rfl | rfl
      · rw [show midB 0 (bt' []) [] (bt' []) = [38] ++ [] from rfl, e0]
        show setK (rdF d) 0 (prFs l ++ 41 :: t) = _
        exact hset 0
      · rw [show midB 1 (bt' []) [] (bt' []) = [124] ++ [] from rfl, e0]
        show setK (rdF d) 1 (prFs l ++ 41 :: t) = _
        exact hset 1
      · rw [show midB 2 (bt' []) [] (bt' []) = [33] ++ [] from rfl, e0]
        show setK (rdF d) 2 (prFs l ++ 41 :: t) = _
        exact hset 2
    · obtain ⟨i1, i2, _⟩ := item_print k n v a fi hk h1
      have hb := name_bytes hn
      rw [prF, prFs, List.append_nil]
      obtain ⟨c, r, hcr⟩ : ∃ c r, bl n ++ midB k v a fi = c :: r ∧ nameByte c = true := by
        cases hbl : bl n with
        | nil => exact absurd hbl (name_ne hn)
        | cons c r => exact ⟨c, r ++ midB k v a fi, rfl, hb c (by rw [hbl]; simp)⟩
      obtain ⟨hcr, hc⟩ := hcr
      have hcut := cutL_here 41 t (bl n ++ midB k v a fi) (fun hm => i2 _ hm rfl)
      rw [show 40 :: (bl n ++ midB k v a fi ++ [41]) ++ t = 40 :: (bl n ++ midB k v a fi ++ 41 :: t) by simp]
      rw [hcr] at hcut i1 ⊢
      have hne := nameByte_ne hc
      rw [List.cons_append] at hcut ⊢
      rw [rdF_item d c _ hne.2.2.2.2.2.2.2, hcut]
      dsimp only
      rw [i1]; rfl
theorem parsed_print (f : Flt) (h : rightF 1 f = true) : parsedF (prF f) = some f := by
  have := rd_print 6 f [] (Nat.le_refl _) h
  rw [List.append_nil] at this
  unfold parsedF
  rw [this]
  dsimp only
  rw [if_pos h]
end Go.Proofs.YtajpgigeploodaaGreatDoor.Fl
/- filt, plain: the same filters, all filters in one, their names, how deep they stand. No program. -/
namespace Go.Proofs.YtajpgigeploodaaGreatDoor.Fl
set_option linter.unusedVariables false
mutual
def sameF : Flt → Flt → Bool
  | .mk k n v a f l, .mk k' n' v' a' f' l' => decide (k = k') && (decide (n = n') && (decide (v = v') && (decide (f = f') && (decide (a = a') && sameFs l l'))))
def sameFs : List Flt → List Flt → Bool
  | [], [] => true
  | x :: r, y :: s => sameF x y && sameFs r s
  | _, _ => false
end
mutual
theorem sameF_iff : ∀ x y : Flt, sameF x y = true ↔ x = y
  | .mk k n v a f l, .mk k' n' v' a' f' l' => by
    rw [sameF]
    simp only [Bool.and_eq_true, decide_eq_true_eq, sameFs_iff l l']
    constructor
    · rintro ⟨rfl, rfl, rfl, rfl, rfl, rfl⟩; rfl
    · intro h; injection h with h1 h2 h3 h4 h5 h6; exact ⟨h1, h2, h3, h5, h4, h6⟩
theorem sameFs_iff : ∀ x y : List Flt, sameFs x y = true ↔ x = y
  | [], [] => by simp [sameFs]
  | x :: r, y :: s => by rw [sameFs, Bool.and_eq_true, sameF_iff x y, sameFs_iff r s, List.cons.injEq]
  | [], _ :: _ => by simp [sameFs]
  | _ :: _, [] => by simp [sameFs]
end
theorem sameF_refl (x : Flt) : sameF x x = true := (sameF_iff x x).2 rfl
mutual
/-- all in a filter, itself first, each with how deep it stands -/
def preF : Nat → Flt → List (Nat × Flt)
  | d, .mk k n v a f l => (d, .mk k n v a f l) :: preFs (d + 1) l
def preFs : Nat → List Flt → List (Nat × Flt)
  | _, [] => []
  | d, x :: r => preF d x ++ preFs d r
end
mutual
theorem right_pre : ∀ (d : Nat) (f : Flt), rightF d f = (preF d f).all fun p => decide (p.1 ≤ 6) && oneB p.2
  | d, .mk k n v a f l => by rw [rightF, preF, List.all_cons, rights_pre (d + 1) l, Bool.and_assoc]
theorem rights_pre : ∀ (d : Nat) (l : List Flt), rightFs d l = (preFs d l).all fun p => decide (p.1 ≤ 6) && oneB p.2
  | _, [] => rfl
  | d, x :: r => by rw [rightFs, preFs, List.all_append, right_pre d x, rights_pre d r]
end
mutual
def nmF : Flt → List ByteArray
  | .mk _ n _ _ _ l => (if n.size = 0 then [] else [n]) ++ nmFs l
def nmFs : List Flt → List ByteArray
  | [] => []
  | x :: r => nmF x ++ nmFs r
end
def nmOf (p : Nat × Flt) : Option ByteArray := if p.2.name.size = 0 then none else some p.2.name
mutual
theorem nm_pre : ∀ (d : Nat) (f : Flt), nmF f = (preF d f).filterMap nmOf
  | d, .mk k n v a f l => by
    rw [nmF, preF, List.filterMap_cons, nms_pre (d + 1) l]
    by_cases h : n.size = 0
    · simp [nmOf, Flt.name, h]
    · simp [nmOf, Flt.name, h]
theorem nms_pre : ∀ (d : Nat) (l : List Flt), nmFs l = (preFs d l).filterMap nmOf
  | _, [] => rfl
  | d, x :: r => by rw [nmFs, preFs, List.filterMap_append, nm_pre d x, nms_pre d r]
end
/-- the names in a right filter -/
def namesF (f : Flt) : List ByteArray := if rightF 1 f = true then nmF f else []
mutual
theorem right_up : ∀ (d : Nat) (f : Flt), rightF (d + 1) f = true → rightF d f = true
  | d, .mk k n v a f l, h => by
    rw [rightF] at h ⊢
    simp only [Bool.and_eq_true, decide_eq_true_eq] at h ⊢
    exact ⟨by omega, h.2.1, rights_up (d + 1) l h.2.2⟩
theorem rights_up : ∀ (d : Nat) (l : List Flt), rightFs (d + 1) l = true → rightFs d l = true
  | _, [], _ => rfl
  | d, x :: r, h => by
    rw [rightFs, Bool.and_eq_true] at h ⊢
    exact ⟨right_up d x h.1, rights_up d r h.2⟩
end
mutual
theorem names_right : ∀ (d : Nat) (f : Flt), rightF d f = true → nmF f ≠ [] ∧ ∀ n ∈ nmF f, nameB (bl n) = true
  | d, .mk k n v a f l, h => by
    obtain ⟨_, h1, h2⟩ := right_one h
    dsimp only [Flt.l] at h2
    obtain ⟨i1, i2⟩ := names_rights (d + 1) l h2
    rw [nmF]
    rcases one_kind h1 with ⟨_, rfl, rfl, rfl, rfl, hl, _⟩ | ⟨_, rfl, hn⟩
    · rw [if_pos (show (bt' []).size = 0 from rfl), List.nil_append]
      exact ⟨i1 (by rintro rfl; simp at hl), i2⟩
    · have hz : ¬ n.size = 0 := fun e => name_ne hn (bl_zero e)
      rw [if_neg hz]
      refine ⟨by simp, fun m hm => ?_⟩
      rcases List.mem_append.1 hm with hm | hm
      · rw [List.mem_singleton] at hm; rw [hm]; exact hn
      · exact i2 m hm
theorem names_rights : ∀ (d : Nat) (l : List Flt), rightFs d l = true → (l ≠ [] → nmFs l ≠ []) ∧ ∀ n ∈ nmFs l, nameB (bl n) = true
  | _, [], _ => ⟨fun h => absurd rfl h, fun n hn => by cases hn⟩
  | d, x :: r, h => by
    rw [rightFs, Bool.and_eq_true] at h
    obtain ⟨i1, i2⟩ := names_right d x h.1
    obtain ⟨_, i4⟩ := names_rights d r h.2
    rw [nmFs]
    refine ⟨fun _ e => i1 (List.append_eq_nil_iff.1 e).1, fun n hn => ?_⟩
    rcases List.mem_append.1 hn with hn | hn
    · exact i2 n hn
    · exact i4 n hn
end
/-- one that has no sets in it has its own name alone -/
theorem names_item {f : Flt} (h : oneB f = true) (hk : ¬ f.kind ≤ 2) : nmF f = [f.name] := by
  obtain ⟨k, n, v, a, fi, l⟩ := f
  rcases one_kind h with ⟨h0, _⟩ | ⟨_, rfl, hn⟩
  · exfalso; apply hk; show k ≤ 2; omega
  · have hz : ¬ n.size = 0 := fun e => name_ne hn (bl_zero e)
    rw [nmF, if_neg hz]; rfl
theorem kind_ge {f : Flt} (h : oneB f = true) : 0 ≤ f.kind := by
  obtain ⟨k, n, v, a, fi, l⟩ := f
  rcases one_kind h with ⟨h0, _⟩ | ⟨h0, _⟩ <;> (show 0 ≤ k; omega)
/-! ### the laws -/
theorem wraps_text (x : Flt) : prF (.mk 2 (bt' []) (bt' []) [] (bt' []) [x]) = 40 :: 33 :: (prF x ++ [41]) := by
  rw [prF, prFs, prFs, List.append_nil]
  show 40 :: (([] : List UInt8) ++ ([33] ++ []) ++ prF x ++ [41]) = _
  simp
theorem wraps_names (x : Flt) : nmF (.mk 2 (bt' []) (bt' []) [] (bt' []) [x]) = nmF x := by
  rw [nmF, nmFs, nmFs, List.append_nil]; rfl
theorem sets_text (k : Int) (c : UInt8) (hk : (k = 0 ∧ c = 38) ∨ (k = 1 ∧ c = 124)) (x y : Flt) : prF (.mk k (bt' []) (bt' []) [] (bt' []) [x, y]) = 40 :: c :: (prF x ++ prF y ++ [41]) := by
  rw [prF, prFs, prFs, prFs, List.append_nil]
  rcases hk with ⟨rfl, rfl⟩ | ⟨rfl, rfl⟩
  · show 40 :: (([] : List UInt8) ++ ([38] ++ []) ++ (prF x ++ prF y) ++ [41]) = _
    simp
  · show 40 :: (([] : List UInt8) ++ ([124] ++ []) ++ (prF x ++ prF y) ++ [41]) = _
    simp
theorem sets_names (k : Int) (x y : Flt) : nmF (.mk k (bt' []) (bt' []) [] (bt' []) [x, y]) = nmF x ++ nmF y := by
  rw [nmF, nmFs, nmFs, nmFs, List.append_nil]; rfl
theorem sets_right {k : Int} {x y : Flt} (h : rightF 1 (.mk k (bt' []) (bt' []) [] (bt' []) [x, y]) = true) : rightF 1 x = true ∧ rightF 1 y = true := by
  obtain ⟨_, _, h2⟩ := right_one h
  dsimp only [Flt.l] at h2
  rw [rightFs, rightFs, Bool.and_eq_true, Bool.and_eq_true] at h2
  exact ⟨right_up 1 x h2.1, right_up 1 y h2.2.1⟩
theorem wraps_right {x : Flt} (h : rightF 1 (.mk 2 (bt' []) (bt' []) [] (bt' []) [x]) = true) : rightF 1 x = true := by
  obtain ⟨_, _, h2⟩ := right_one h
  dsimp only [Flt.l] at h2
  rw [rightFs, Bool.and_eq_true] at h2
  exact right_up 1 x h2.1
/-- a filter of a name and a value alone -/
theorem item_right (k : Int) (hk : k = 3 ∨ k = 5 ∨ k = 6 ∨ k = 8) (n v : ByteArray) : rightF 1 (.mk k n v [] (bt' []) []) = (nameB (bl n) && decide (v.size ≤ 60)) := by
  rw [rightF, rightFs]
  unfold oneB namedB shortB
  dsimp only
  rw [if_neg (by omega), if_neg (by omega), if_neg (by omega), if_pos hk]
  cases nameB (bl n) <;> cases h : decide (v.size ≤ 60) <;> rfl
theorem item_text (k : Int) (hk : k = 3 ∨ k = 5 ∨ k = 6 ∨ k = 8) (n v : ByteArray) : prF (.mk k n v [] (bt' []) []) = 40 :: (bl n ++ signB k ++ escF (bl v) ++ [41]) := by
  rw [prF, prFs, List.append_nil]
  unfold midB
  rw [if_neg (by omega), if_neg (by omega)]
  simp
/-- what is read is right -/
theorem parsed_right {s : List UInt8} {f : Flt} (h : parsedF s = some f) : rightF 1 f = true := by
  unfold parsedF at h
  split at h
  · split at h
    · cases h; assumption
    · cases h
  · cases h
/-- the text of one with a name, read -/
theorem parsed_item (s : List UInt8) (f : Flt) (hs : ∀ b ∈ s, b ≠ 41) (h0 : ∀ c t, s = c :: t → c ≠ 38 ∧ c ≠ 124 ∧ c ≠ 33) (hne : s ≠ []) (hi : itemF s = some f) : parsedF (40 :: (s ++ [41])) = if rightF 1 f = true then some f else none := by
  have hcut := cutL_here 41 [] s (fun hm => hs _ hm rfl)
  unfold parsedF
  cases s with
  | nil => exact absurd rfl hne
  | cons c t =>
    rw [List.cons_append] at hcut ⊢
    rw [rdF_item 5 c _ (h0 c t rfl), hcut]
    dsimp only
    rw [hi]
    rfl
theorem name_head {l : List UInt8} (h : nameB l = true) (r : List UInt8) : ∀ c t, l ++ r = c :: t → c ≠ 38 ∧ c ≠ 124 ∧ c ≠ 33 := fun c t e => by
  cases l with
  | nil => exact absurd rfl (name_ne h)
  | cons x y =>
    injection e with e _
    rw [← e]
    exact (nameByte_ne (name_bytes h x (by simp))).2.2.2.2.2.2.2
/-- a value with a star in it -/
theorem stars_law (n a b : ByteArray) (hn : nameB (bl n) = true) (ha : a.size ≤ 60) (hb : b.size ≤ 60) :
    parsedF (40 :: (bl n ++ 61 :: (escF (bl a) ++ 42 :: escF (bl b)) ++ [41])) = some (if a.size = 0 ∧ b.size = 0 then .mk 7 n (bt' []) [] (bt' []) [] else .mk 4 n a [] b []) := by
  have e61 : (61 : UInt8) ∉ bl n := fun hm => (nameByte_ne (name_bytes hn _ hm)).1 rfl
  have hs : ∀ z ∈ bl n ++ 61 :: (escF (bl a) ++ 42 :: escF (bl b)), z ≠ 41 := fun z hz => by
    rcases List.mem_append.1 hz with hz | hz
    · exact (nameByte_ne (name_bytes hn _ hz)).2.1
    · rcases List.mem_cons.1 hz with rfl | hz
      · decide
      · rcases List.mem_append.1 hz with hz | hz
        · exact (esc_no _ _ hz).2.2
        · rcases List.mem_cons.1 hz with rfl | hz
          · decide
          · exact (esc_no _ _ hz).2.2
  have hc : (escF (bl a) ++ 42 :: escF (bl b)).contains 42 = true := by rw [List.contains_iff_mem]; simp
  have hesc : ∀ s : ByteArray, escF (bl s) = [] → s.size = 0 := fun s h => by
    have := readV_esc s
    rw [h] at this
    have h0 : readV [] = some (bt' []) := by
      have := readV_esc (bt' [])
      rwa [bl_of] at this
    rw [h0] at this
    cases this; rfl
  by_cases h0 : a.size = 0 ∧ b.size = 0
  · rw [if_pos h0]
    have e : escF (bl a) ++ 42 :: escF (bl b) = [42] := by rw [bl_zero h0.1, bl_zero h0.2]; rfl
    have hi : itemF (bl n ++ 61 :: (escF (bl a) ++ 42 :: escF (bl b))) = some (.mk 7 n (bt' []) [] (bt' []) []) := by
      rw [e]
      unfold itemF
      rw [cutL_here 61 _ _ e61]
      dsimp only
      rw [end_name hn, if_pos ⟨rfl, by decide⟩, if_pos rfl]; rfl
    rw [parsed_item _ _ hs (name_head hn _) (by simp) hi, if_pos]
    rw [rightF, rightFs]
    unfold oneB namedB
    dsimp only
    rw [if_neg (by decide), if_pos rfl, hn]
    decide
  · rw [if_neg h0]
    have e : escF (bl a) ++ 42 :: escF (bl b) ≠ [42] := by
      intro e
      have hs := split_stars [a] b
      have e3 : ([a].flatMap fun s => escF (bl s) ++ [42]) ++ escF (bl b) = escF (bl a) ++ 42 :: escF (bl b) := by simp
      rw [e3, e] at hs
      have e2 : Txt.splitOn 42 [42] = [[], []] := by decide
      rw [e2] at hs
      simp at hs
      exact h0 ⟨hesc a hs.1, hesc b hs.2⟩
    have hi : itemF (bl n ++ 61 :: (escF (bl a) ++ 42 :: escF (bl b))) = some (.mk 4 n a [] b []) := by
      unfold itemF
      rw [cutL_here 61 _ _ e61]
      dsimp only
      rw [end_name hn, if_pos ⟨rfl, hc⟩, if_neg e]
      have hs := split_stars [a] b
      have e3 : ([a].flatMap fun s => escF (bl s) ++ [42]) ++ escF (bl b) = escF (bl a) ++ 42 :: escF (bl b) := by simp
      rw [e3] at hs
      rw [hs]
      have := allM_esc [a, b]
      rw [show [a].map (fun s => escF (bl s)) ++ [escF (bl b)] = [a, b].map (fun s => escF (bl s)) from rfl, this]
      rfl
    rw [parsed_item _ _ hs (name_head hn _) (by simp) hi, if_pos]
    rw [rightF, rightFs]
    unfold oneB namedB
    dsimp only
    have hbare : bareB a [] b = false := by
      unfold bareB
      cases h1 : decide (a.size = 0) with
      | false => rfl
      | true =>
        cases h2 : decide (b.size = 0) with
        | false => rfl
        | true => exact absurd ⟨of_decide_eq_true h1, of_decide_eq_true h2⟩ h0
    rw [if_neg (by decide), if_neg (by decide), if_pos rfl, hn, hbare]
    unfold shortB
    rw [decide_eq_true ha, decide_eq_true hb]
    decide
/-- a value whose bytes are all printed by their digits -/
theorem digits_law (n v : ByteArray) (hn : nameB (bl n) = true) (hv : v.size ≤ 60) :
    parsedF (40 :: (bl n ++ 61 :: ((bl v).flatMap fun b => 92 :: Code.hexB b) ++ [41])) = some (.mk 3 n v [] (bt' []) []) := by
  have e61 : (61 : UInt8) ∉ bl n := fun hm => (nameByte_ne (name_bytes hn _ hm)).1 rfl
  have hno := flat_signs Prints.hex (bl v)
  have hs : ∀ z ∈ bl n ++ 61 :: ((bl v).flatMap fun b => 92 :: Code.hexB b), z ≠ 41 := fun z hz => by
    rcases List.mem_append.1 hz with hz | hz
    · exact (nameByte_ne (name_bytes hn _ hz)).2.1
    · rcases List.mem_cons.1 hz with rfl | hz
      · decide
      · exact (hno z hz).2.2
  have hc : ((bl v).flatMap fun b => 92 :: Code.hexB b).contains 42 = false := by
    cases h : ((bl v).flatMap fun b => 92 :: Code.hexB b).contains 42
    · rfl
    · exact absurd rfl (hno _ (List.contains_iff_mem.1 h)).1
  have hr : readV ((bl v).flatMap fun b => 92 :: Code.hexB b) = some v := by
    unfold readV
    rw [show bt' ((bl v).flatMap fun b => 92 :: Code.hexB b) = ⟨((bl v).flatMap fun b => 92 :: Code.hexB b).toArray⟩ from rfl, read_back Prints.hex]; rfl
  have hi : itemF (bl n ++ 61 :: ((bl v).flatMap fun b => 92 :: Code.hexB b)) = some (.mk 3 n v [] (bt' []) []) := by
    unfold itemF
    rw [cutL_here 61 _ _ e61]
    dsimp only
    rw [end_name hn, hc, if_neg (by simp), hr]; rfl
  rw [parsed_item _ _ hs (name_head hn _) (by simp) hi, if_pos]
  rw [item_right 3 (.inl rfl), hn, decide_eq_true hv]; rfl
end Go.Proofs.YtajpgigeploodaaGreatDoor.Fl
/- Between two ways of telling how a slice lies: views, and values without memory. Whatever program; a function's contract told in one way, told in the other one. -/
namespace Go.Proofs.YtajpgigeploodaaGreatDoor
open Go.RowKit
set_option linter.unusedVariables false
/-- every cell that is there -/
def Lall (w : World) : Lv := fun b o => ∃ u, w.cell? ⟨b, o, none⟩ = some u
theorem rep_view {α : Type} {k : Nat} {enc : α → List V} {R : View α} {w : World} {L : Lv} (hk0 : 0 < k) (hk : ∀ x, (enc x).length = k) (hR : ∀ x cs, RepL w L (enc x) cs → R w (fun _ => True) cs x) {xs : List α} {v : Value} (h : Rep w L (.sl (xs.map enc)) v) : VSlice k R w (fun _ => True) [v] xs := by
  obtain ⟨A, c, rfl, hl, hx⟩ := h
  rw [List.length_map] at hl
  refine ⟨A, c, by rw [List.length_map], hl, fun hn => ?_⟩
  obtain ⟨b, o, e, rfl, hr⟩ := hx (by simpa using hn)
  have key : ∀ (j : Nat) (x : α), xs[j]? = some x → ∃ ws, R w (fun _ => True) ws x ∧ ws.length = k ∧ e = k ∧ ∀ (i : Nat) (u : Value), ws[i]? = some u → w.cell? ⟨b, o + (j * k + i), none⟩ = some u := fun j x hj => by
    obtain ⟨h1, h2⟩ := hr.get (i := j) (c := enc x) (by rw [List.getElem?_map, hj]; rfl)
    obtain ⟨cs, c1, c2, c3⟩ := h2.vals
    have he : e = k := by rw [← h1, hk]
    subst he
    exact ⟨cs, hR x cs c2, by rw [c1, hk], rfl, fun i u hu => by rw [show o + (j * e + i) = o + j * e + i by omega]; exact c3 i u hu⟩
  refine ⟨b, o, rfl, trivial, ?_, fun j x hj => ?_⟩
  · obtain ⟨x, t, rfl⟩ : ∃ x t, xs = x :: t := by cases xs with
      | nil => exact absurd rfl hn
      | cons x t => exact ⟨x, t, rfl⟩
    obtain ⟨ws, h1, h2, h3, h4⟩ := key 0 x rfl
    obtain ⟨u, hu⟩ : ∃ u, ws[0]? = some u := ⟨_, List.getElem?_eq_getElem (by omega)⟩
    exact World.block_lt_of_cell? w _ (h4 0 u hu)
  · obtain ⟨ws, h1, _, _, h2⟩ := key j x hj
    exact ⟨ws, h1, h2⟩
theorem view_rep {α : Type} {k : Nat} {enc : α → List V} {R : View α} {w : World} (hR : ∀ x cs, R w (fun _ => True) cs x → RepL w (Lall w) (enc x) cs) (hk : ∀ x, (enc x).length = k) {xs : List α} {v : Value} (h : VSlice k R w (fun _ => True) [v] xs) : Rep w (Lall w) (.sl (xs.map enc)) v := by
  obtain ⟨A, c, rfl, hl, hx⟩ := h.open
  refine ⟨A, c, by rw [List.length_map], by rw [List.length_map]; exact hl, fun hn => ?_⟩
  obtain ⟨b, o, rfl, _, _, hr⟩ := hx (by simpa using hn)
  refine ⟨b, o, k, rfl, RepE.of_get _ _ fun i cc hc => ?_⟩
  rw [List.getElem?_map] at hc
  obtain ⟨x, hxi, rfl⟩ := Option.map_eq_some_iff.1 hc
  obtain ⟨ws, h1, h2⟩ := hr i x hxi
  have h3 := hR x ws h1
  refine ⟨hk x, RepC.of_get _ _ fun j y hy => ?_⟩
  obtain ⟨u, hu, ho, hru⟩ := h3.get hy
  have := h2 j u hu
  rw [show o + (i * k + j) = o + i * k + j by omega] at this
  exact ⟨u, ⟨u, this⟩, this, ho, hru⟩
/-- a contract whose result needs no memory -/
theorem Fn.of_plain {P : Program} {X : En} {f : FuncId} {args : List T} {r : V} (hen : ∀ (vs : Array Value) (w : World), (callFunc f vs).run P w = .ok (.enter f vs) w) (hr : zok r = true)
    (h : ∀ (w : World) (L : Lv) (vs : List Value), X.E w → RepTs P w ⟨L, fun _ => (0, 0), fun _ => undef⟩ args vs → Calls P f vs.toArray w fun e w' => e = .returned (zv r) ∧ Below w.heap.size w w') : Fn P X f args (.v r) :=
  ⟨hen, fun w L vs hE hL ha => (h w L vs hE ha).mono fun e w' ⟨he, hb⟩ => ⟨zv r, L, he, hb, Same.of_below hb, .inl, fun hl => let ⟨u, hu⟩ := hL hl; ⟨u, cell_below hu hb⟩, by cases r <;> first | rfl | cases hr⟩⟩
/-- what the walks ask of the variables, and where these lie -/
def envX (p : Nat → Addr) : En where
  E := fun w => Env w p
  Eb := fun b => b ∈ senNums ∨ (∃ n, n ∈ senNums ∧ (p n).block = b) ∨ b = 1 ∨ b = 2 ∨ b = 3 ∨ b = 4
  lt := fun {w b} h hb => by
    rcases hb with hb | ⟨n, hn, rfl⟩ | rfl | rfl | rfl | rfl
    · have := World.block_lt_of_cell? w _ (h.gl.cell b hb); simpa using this
    · obtain ⟨c, t, hc⟩ := h.gl.blk n hn; exact (Array.getElem?_eq_some_iff.1 hc).1
    · have := World.block_lt_of_cell? w _ h.gl.et; simpa using this
    · obtain ⟨m, hm⟩ := h.ml; have := World.block_lt_of_cell? w _ hm; simpa using this
    · have := World.block_lt_of_cell? w _ (h.ut.1 0 (by omega)); simpa using this
    · have := World.block_lt_of_cell? w _ (h.ut.2 0 (by omega)).1; simpa using this
  upd := fun {S w w'} hu hS h => by
    refine ⟨h.gl.upd ⟨fun n hn => ⟨fun hs => hS n hs (.inl hn), fun hs => hS _ hs (.inr (.inl ⟨n, hn, rfl⟩))⟩, fun hs => hS _ hs (.inr (.inr (.inl rfl)))⟩ hu, h.ml.imp fun m hm => hu.cell hm (fun hs => hS _ hs (.inr (.inr (.inr (.inl rfl))))), ⟨fun c hc => hu.cell (h.ut.1 c hc) (fun hs => hS _ hs (.inr (.inr (.inr (.inr (.inl rfl)))))), fun i hi => ⟨hu.cell (h.ut.2 i hi).1 (fun hs => hS _ hs (.inr (.inr (.inr (.inr (.inr rfl)))))), hu.cell (h.ut.2 i hi).2 (fun hs => hS _ hs (.inr (.inr (.inr (.inr (.inr rfl))))))⟩⟩⟩
end Go.Proofs.YtajpgigeploodaaGreatDoor
/- Contracts of functions of Go's library, as the kit's shelf proves them of whatever program, at this program's numbers. Each states its own conditions. -/
namespace Go.Proofs.YtajpgigeploodaaGreatDoor
open Go.Shelf
def Shelf.Laysn144_ren : Go.Shelf.Ren := ⟨fun | 143 => 95 | 144 => 66 | 217 => 120 | 219 => 112 | 224 => 122 | 225 => 121 | 266 => 129 | 267 => 123 | 314 => 130 | n => n, fun | 3 => 3 | 4 => 4 | 5 => 5 | 9 => 9 | 46 => 67 | 51 => 164 | 146 => 165 | n => n, fun | 1 => 2 | n => n⟩
theorem Shelf.Laysn144 : Go.Proofs.Lays.n144 Tryz.prog Shelf.Laysn144_ren := {
  mixed := by kernel_rfl
  f143 := Tryz.func95.trans (congrArg some (by kernel_rfl))
  f144 := Tryz.func66.trans (congrArg some (by kernel_rfl))
  f217 := Tryz.func120.trans (congrArg some (by kernel_rfl))
  f219 := Tryz.func112.trans (congrArg some (by kernel_rfl))
  f224 := Tryz.func122.trans (congrArg some (by kernel_rfl))
  f225 := Tryz.func121.trans (congrArg some (by kernel_rfl))
  f266 := Tryz.func129.trans (congrArg some (by kernel_rfl))
  f267 := Tryz.func123.trans (congrArg some (by kernel_rfl))
  f314 := Tryz.func130.trans (congrArg some (by kernel_rfl))
  t3 := Tryz.underlying3
  a3 := Tryz.isAgg3
  z3 := Tryz.sizeOf3
  v3 := Tryz.zeroValue3
  t4 := Tryz.underlying4
  a4 := Tryz.isAgg4
  z4 := Tryz.sizeOf4
  v4 := Tryz.zeroValue4
  t5 := Tryz.underlying5
  a5 := Tryz.isAgg5
  z5 := Tryz.sizeOf5
  v5 := Tryz.zeroValue5
  t9 := Tryz.underlying9
  a9 := Tryz.isAgg9
  z9 := Tryz.sizeOf9
  v9 := Tryz.zeroValue9
  t46 := Tryz.underlying67
  a46 := Tryz.isAgg67
  z46 := Tryz.sizeOf67
  v46 := Tryz.zeroValue67
  t51 := Tryz.underlying164
  a51 := Tryz.isAgg164
  z51 := Tryz.sizeOf164
  v51 := Tryz.zeroValue164
  t146 := Tryz.underlying165
  a146 := Tryz.isAgg165
  z146 := Tryz.sizeOf165
  v146 := Tryz.zeroValue165
  g1 := by kernel_rfl }
open Go.RowKit Go.Lib in
theorem Shelf.strings_Contains  (s sub : ByteArray) (m : Int) (w : World) (hs : s.size < 4294967281) (hm : w.cell? ⟨2, 0, none⟩ = some (.int .i64 m)) :
    Calls Tryz.prog 66 #[.string s, .string sub] w fun e w' => e = .returned (.bool (Lib.contains s.data.toList sub.data.toList)) ∧ w' = w := Any.strings_Contains Shelf.Laysn144  s sub m w hs hm
open Go.RowKit Go.Lib in
theorem Shelf.strings_Contains_one  (s : ByteArray) (c : UInt8) (w : World) :
    Calls Tryz.prog 66 #[.string s, .string ⟨#[c]⟩] w fun e w' => e = .returned (.bool (decide (0 ≤ Lib.indexByte s.data.toList c))) ∧ w' = w := Any.strings_Contains_one Shelf.Laysn144  s c w
def Shelf.Laysn145_ren : Go.Shelf.Ren := ⟨fun | 145 => 87 | 217 => 120 | 219 => 112 | 220 => 104 | 224 => 122 | 225 => 121 | 266 => 129 | 267 => 123 | 314 => 130 | n => n, fun | 3 => 3 | 4 => 4 | 5 => 5 | 9 => 9 | 46 => 67 | 51 => 164 | 59 => 119 | 146 => 165 | n => n, fun | 1 => 2 | n => n⟩
theorem Shelf.Laysn145 : Go.Proofs.Lays.n145 Tryz.prog Shelf.Laysn145_ren := {
  mixed := by kernel_rfl
  f145 := Tryz.func87.trans (congrArg some (by kernel_rfl))
  f217 := Tryz.func120.trans (congrArg some (by kernel_rfl))
  f219 := Tryz.func112.trans (congrArg some (by kernel_rfl))
  f220 := Tryz.func104.trans (congrArg some (by kernel_rfl))
  f224 := Tryz.func122.trans (congrArg some (by kernel_rfl))
  f225 := Tryz.func121.trans (congrArg some (by kernel_rfl))
  f266 := Tryz.func129.trans (congrArg some (by kernel_rfl))
  f267 := Tryz.func123.trans (congrArg some (by kernel_rfl))
  f314 := Tryz.func130.trans (congrArg some (by kernel_rfl))
  t3 := Tryz.underlying3
  a3 := Tryz.isAgg3
  z3 := Tryz.sizeOf3
  v3 := Tryz.zeroValue3
  t4 := Tryz.underlying4
  a4 := Tryz.isAgg4
  z4 := Tryz.sizeOf4
  v4 := Tryz.zeroValue4
  t5 := Tryz.underlying5
  a5 := Tryz.isAgg5
  z5 := Tryz.sizeOf5
  v5 := Tryz.zeroValue5
  t9 := Tryz.underlying9
  a9 := Tryz.isAgg9
  z9 := Tryz.sizeOf9
  v9 := Tryz.zeroValue9
  t46 := Tryz.underlying67
  a46 := Tryz.isAgg67
  z46 := Tryz.sizeOf67
  v46 := Tryz.zeroValue67
  t51 := Tryz.underlying164
  a51 := Tryz.isAgg164
  z51 := Tryz.sizeOf164
  v51 := Tryz.zeroValue164
  t59 := Tryz.underlying119
  a59 := Tryz.isAgg119
  z59 := Tryz.sizeOf119
  v59 := Tryz.zeroValue119
  t146 := Tryz.underlying165
  a146 := Tryz.isAgg165
  z146 := Tryz.sizeOf165
  v146 := Tryz.zeroValue165
  g1 := by kernel_rfl }
open Go.RowKit Go.Lib in
theorem Shelf.strings_Cut  (s sep : ByteArray) (m : Int) (w : World) (hs : s.size < 4294967281) (hm : w.cell? ⟨2, 0, none⟩ = some (.int .i64 m)) :
    Calls Tryz.prog 87 #[.string s, .string sep] w fun e w' => e = .returned (.tuple #[.string ⟨(Lib.cut s.data.toList sep.data.toList).1.toArray⟩, .string ⟨(Lib.cut s.data.toList sep.data.toList).2.1.toArray⟩, .bool (Lib.cut s.data.toList sep.data.toList).2.2]) ∧ ∃ n, w' = w.drewN n := Any.strings_Cut Shelf.Laysn145  s sep m w hs hm
def Shelf.Laysn146_ren : Go.Shelf.Ren := ⟨fun | 138 => 94 | 143 => 95 | 146 => 40 | 195 => 109 | 197 => 110 | 217 => 120 | 218 => 111 | 219 => 112 | 221 => 64 | 224 => 122 | 225 => 121 | 260 => 119 | 266 => 129 | 267 => 123 | 268 => 93 | 314 => 130 | n => n, fun | 0 => 0 | 3 => 3 | 4 => 4 | 5 => 5 | 9 => 9 | 21 => 21 | 31 => 22 | 46 => 67 | 51 => 164 | 105 => 153 | 119 => 160 | 138 => 162 | 139 => 163 | 146 => 165 | n => n, fun | 1 => 2 | 3 => 3 | 4 => 4 | n => n⟩
theorem Shelf.Laysn146 : Go.Proofs.Lays.n146 Tryz.prog Shelf.Laysn146_ren := {
  mixed := by kernel_rfl
  f138 := Tryz.func94.trans (congrArg some (by kernel_rfl))
  f143 := Tryz.func95.trans (congrArg some (by kernel_rfl))
  f146 := Tryz.func40.trans (congrArg some (by kernel_rfl))
  f195 := Tryz.func109.trans (congrArg some (by kernel_rfl))
  f197 := Tryz.func110.trans (congrArg some (by kernel_rfl))
  f217 := Tryz.func120.trans (congrArg some (by kernel_rfl))
  f218 := Tryz.func111.trans (congrArg some (by kernel_rfl))
  f219 := Tryz.func112.trans (congrArg some (by kernel_rfl))
  f221 := Tryz.func64.trans (congrArg some (by kernel_rfl))
  f224 := Tryz.func122.trans (congrArg some (by kernel_rfl))
  f225 := Tryz.func121.trans (congrArg some (by kernel_rfl))
  f260 := Tryz.func119.trans (congrArg some (by kernel_rfl))
  f266 := Tryz.func129.trans (congrArg some (by kernel_rfl))
  f267 := Tryz.func123.trans (congrArg some (by kernel_rfl))
  f268 := Tryz.func93.trans (congrArg some (by kernel_rfl))
  f314 := Tryz.func130.trans (congrArg some (by kernel_rfl))
  t0 := Tryz.underlying0
  a0 := Tryz.isAgg0
  z0 := Tryz.sizeOf0
  v0 := Tryz.zeroValue0
  t3 := Tryz.underlying3
  a3 := Tryz.isAgg3
  z3 := Tryz.sizeOf3
  v3 := Tryz.zeroValue3
  t4 := Tryz.underlying4
  a4 := Tryz.isAgg4
  z4 := Tryz.sizeOf4
  v4 := Tryz.zeroValue4
  t5 := Tryz.underlying5
  a5 := Tryz.isAgg5
  z5 := Tryz.sizeOf5
  v5 := Tryz.zeroValue5
  t9 := Tryz.underlying9
  a9 := Tryz.isAgg9
  z9 := Tryz.sizeOf9
  v9 := Tryz.zeroValue9
  t21 := Tryz.underlying21
  a21 := Tryz.isAgg21
  z21 := Tryz.sizeOf21
  v21 := Tryz.zeroValue21
  t31 := Tryz.underlying22
  a31 := Tryz.isAgg22
  z31 := Tryz.sizeOf22
  v31 := Tryz.zeroValue22
  t46 := Tryz.underlying67
  a46 := Tryz.isAgg67
  z46 := Tryz.sizeOf67
  v46 := Tryz.zeroValue67
  t51 := Tryz.underlying164
  a51 := Tryz.isAgg164
  z51 := Tryz.sizeOf164
  v51 := Tryz.zeroValue164
  t105 := Tryz.underlying153
  a105 := Tryz.isAgg153
  z105 := Tryz.sizeOf153
  v105 := Tryz.zeroValue153
  t119 := Tryz.underlying160
  a119 := Tryz.isAgg160
  z119 := Tryz.sizeOf160
  t138 := Tryz.underlying162
  a138 := Tryz.isAgg162
  z138 := Tryz.sizeOf162
  v138 := Tryz.zeroValue162
  t139 := Tryz.underlying163
  a139 := Tryz.isAgg163
  z139 := Tryz.sizeOf163
  v139 := Tryz.zeroValue163
  t146 := Tryz.underlying165
  a146 := Tryz.isAgg165
  z146 := Tryz.sizeOf165
  v146 := Tryz.zeroValue165
  g1 := by kernel_rfl
  g3 := by kernel_rfl
  g4 := by kernel_rfl }
open Go.RowKit Go.Lib in
theorem Shelf.strings_Split  (s sep : ByteArray) (m : Int) (w : World) (hs : s.size < 4294967281) (hm : w.cell? ⟨2, 0, none⟩ = some (.int .i64 m)) (h1 : 1 ≤ sep.size) :
    Calls Tryz.prog 40 #[.string s, .string sep] w fun e w' =>
      e = .returned (.slice (some ⟨w.heap.size, 0, none⟩) (Lib.countB s sep + 1) (Lib.countB s sep + 1)) ∧ w' = w.alloc (.cells ((Lib.splitB sep 0 (Lib.countB s sep) s).map Value.string).toArray 9) := Any.strings_Split Shelf.Laysn146  (by kernel_rfl) s sep m w hs hm h1
end Go.Proofs.YtajpgigeploodaaGreatDoor
/- Contracts of functions of Go's library, as the kit's shelf proves them of whatever program, at this program's numbers. Each states its own conditions. -/
namespace Go.Proofs.YtajpgigeploodaaGreatDoor
open Go.Shelf
def Shelf.LaysGwn17_ren : Go.Shelf.Ren := ⟨fun | 15 => 97 | 17 => 70 | 20 => 113 | n => n, fun | 0 => 0 | 3 => 3 | 4 => 4 | 9 => 9 | 21 => 21 | 23 => 96 | n => n, fun  | n => n⟩
theorem Shelf.LaysGwn17 : Go.Proofs.LaysGw.n17 Tryz.prog Shelf.LaysGwn17_ren := {
  mixed := by kernel_rfl
  f15 := Tryz.func97.trans (congrArg some (by kernel_rfl))
  f17 := Tryz.func70.trans (congrArg some (by kernel_rfl))
  f20 := Tryz.func113.trans (congrArg some (by kernel_rfl))
  t0 := Tryz.underlying0
  a0 := Tryz.isAgg0
  z0 := Tryz.sizeOf0
  v0 := Tryz.zeroValue0
  i0 := by kernel_rfl
  t3 := Tryz.underlying3
  a3 := Tryz.isAgg3
  z3 := Tryz.sizeOf3
  v3 := Tryz.zeroValue3
  i3 := by kernel_rfl
  t4 := Tryz.underlying4
  a4 := Tryz.isAgg4
  z4 := Tryz.sizeOf4
  v4 := Tryz.zeroValue4
  i4 := by kernel_rfl
  t9 := Tryz.underlying9
  a9 := Tryz.isAgg9
  z9 := Tryz.sizeOf9
  v9 := Tryz.zeroValue9
  i9 := by kernel_rfl
  t21 := Tryz.underlying21
  a21 := Tryz.isAgg21
  z21 := Tryz.sizeOf21
  v21 := Tryz.zeroValue21
  i21 := by kernel_rfl
  t23 := Tryz.underlying96
  a23 := Tryz.isAgg96
  z23 := Tryz.sizeOf96
  v23 := Tryz.zeroValue96
  i23 := by kernel_rfl }
open Go.RowKit Go.Lib in
theorem Shelf.strings_ContainsFunc  (g : Nat) (lb : Array Value) (eg : ∀ args w, (callFunc g args).run Tryz.prog w = .ok (.enter g args) w) (p : Nat → Bool) (s : ByteArray) (w : World) (hp : PredAt Tryz.prog g lb encR p w) :
    Calls Tryz.prog 70 #[.string s, .func (.func g) #[] lb] w fun e w' => e = .returned (.bool (decide (0 ≤ Lib.idxFunc p true s))) ∧ Below w.heap.size w w' := Any.strings_ContainsFunc Shelf.LaysGwn17  g lb eg p s w hp
end Go.Proofs.YtajpgigeploodaaGreatDoor
