/- Several texts, one behind the other. latinerref07, walked: which texts are types. Conditions: texts of at most 10^6 bytes. Between two ways of telling how a slice lies: views, and values without memory. Whatever program; a function's contract told in one way, told in the other one. dn: which names are the same, and under each other (isSame, Same, IsUnder). Conditions: the names read as they lie. dn, plain: what a text says as a name; a right name, printed and read, is itself. Contracts of functions of Go's library, as the kit's shelf proves them of whatever program, at this program's numbers. Each states its own conditions. dn.printed: a name's text. Conditions: the name is right, and reads as it lies. errors.As and errors.Is at an error type of the package Dn: a struct of one cell (Go's text of both is walked). No conditions beyond the shape of memory that each theorem names. -/
import Derived.Test.YtjmpkbmgcbalkaaGreatDoorT20
import Derived.Test.YtjmpkbmgcbalkaaGreatDoorT23
import Derived.Test.YtjmpkbmgcbalkaaGreatDoorT07
import Derived.Test.YtjmpkbmgcbalkaaGreatDoorT11
import Derived.Test.YtjmpkbmgcbalkaaGreatDoorT10
import Derived.Test.YtjmpkbmgcbalkaaGreatDoorT14
import Derived.Shelf.Strings.OnBuilder
import Derived.Test.YtjmpkbmgcbalkaaGreatDoorProg
import Derived.WalkKit
import Derived.Below
import Derived.KernelRfl
import Derived.LaidEql
import Derived.Stop.Asserts
import Derived.RowKitTokens
import Derived.Outline
import Derived.Laws.Rows
import Derived.RangeFuncRecord
import Derived.Laws.Tables
/- latinerref07, walked: which texts are types. Conditions: texts of at most 10^6 bytes. -/
namespace Go.Proofs.YtjmpkbmgcbalkaaGreatDoor.Rf
open Go.RowKit
set_option linter.unusedVariables false
variable {X : En}
def numOk (l : List UInt8) : Bool := !l.isEmpty && (decide (l.length ≤ 1) || decide (l.head? ≠ some 48))
/-- numbers with points between: what stands behind, what of a number was read, how many were -/
def oidGo : List UInt8 → List UInt8 → Nat → Bool
  | [], cur, p => numOk cur && decide (2 ≤ p + 1)
  | c :: t, cur, p => if Dn.digit c then oidGo t (cur ++ [c]) p else if c = 46 then numOk cur && oidGo t [] (p + 1) else false
theorem num_ok (l : List UInt8) (h : l.all Dn.digit = true) : Dn.numB l = numOk l := by
  unfold Dn.numB numOk
  rw [h, Bool.true_and]
  congr 1
  rw [Bool.eq_iff_iff]
  match l with
  | [] => simp
  | [x] => simp
  | x :: y :: t => simp
theorem split_app (c : UInt8) : ∀ (cur l : List UInt8), c ∉ cur → ∃ h r, Txt.splitOn c l = h :: r ∧ Txt.splitOn c (cur ++ l) = (cur ++ h) :: r
  | [], l, _ => by
    cases hs : Txt.splitOn c l with
    | nil => exact absurd hs (Txt.splitOn_ne c l)
    | cons h r => exact ⟨h, r, rfl, by simpa using hs⟩
  | x :: cur, l, hc => by
    obtain ⟨h, r, h1, h2⟩ := split_app c cur l (fun h => hc (by simp [h]))
    refine ⟨h, r, h1, ?_⟩
    rw [List.cons_append, Txt.splitOn, if_neg (fun e => hc (by simp [e])), h2]
    rfl
theorem digit_46 : Dn.digit 46 = false := by decide
theorem oid_go : ∀ (l cur : List UInt8) (p : Nat), cur.all Dn.digit = true → oidGo l cur p = (decide (2 ≤ p + (Txt.splitOn 46 l).length) && (Txt.splitOn 46 (cur ++ l)).all Dn.numB)
  | [], cur, p, hc => by
    obtain ⟨h, r, h1, h2⟩ := split_app 46 cur [] (fun hm => by have := List.all_eq_true.1 hc 46 hm; rw [digit_46] at this; cases this)
    have h0 : Txt.splitOn 46 [] = [[]] := rfl
    rw [h0] at h1
    injection h1 with e1 e2
    subst e1 e2
    rw [oidGo, h2, h0, List.append_nil]
    simp only [List.all_cons, List.all_nil, Bool.and_true, List.length_cons, List.length_nil]
    rw [num_ok cur hc, Bool.and_comm]
  | c :: t, cur, p, hc => by
    have h46 : (46 : UInt8) ∉ cur := fun hm => by have := List.all_eq_true.1 hc 46 hm; rw [digit_46] at this; cases this
    rw [oidGo]
    cases hd : Dn.digit c
    · rw [if_neg (by simp)]
      by_cases h6 : c = 46
      · subst h6
        rw [if_pos rfl, oid_go t [] (p + 1) rfl]
        have e1 : Txt.splitOn 46 (46 :: t) = [] :: Txt.splitOn 46 t := by rw [Txt.splitOn, if_pos rfl]
        obtain ⟨h, r, h1, h2⟩ := split_app 46 cur (46 :: t) h46
        rw [e1] at h1
        injection h1 with e2 e3
        subst e2 e3
        rw [h2, e1, List.append_nil, List.all_cons, num_ok cur hc, List.length_cons, List.nil_append, show p + 1 + (Txt.splitOn 46 t).length = p + ((Txt.splitOn 46 t).length + 1) by omega, ← Bool.and_assoc, ← Bool.and_assoc, Bool.and_comm (numOk cur)]
      · rw [if_neg h6]
        obtain ⟨h, r, h1, h2⟩ := split_app 46 cur (c :: t) h46
        have : ∃ h', h = c :: h' := by
          rw [Txt.splitOn, if_neg h6] at h1
          cases hs : Txt.splitOn 46 t with
          | nil => exact absurd hs (Txt.splitOn_ne 46 t)
          | cons a b => rw [hs] at h1; injection h1 with e _; exact ⟨a, e.symm⟩
        obtain ⟨h', rfl⟩ := this
        have hn : Dn.numB (cur ++ c :: h') = false := by
          unfold Dn.numB
          rw [show (cur ++ c :: h').all Dn.digit = false by simp [hd]]
          simp
        rw [h2, List.all_cons, hn]; simp
    · rw [if_pos rfl, oid_go t (cur ++ [c]) p (by simp [hc, hd])]
      have h6 : c ≠ 46 := fun e => by rw [e, digit_46] at hd; cases hd
      have e1 : (Txt.splitOn 46 (c :: t)).length = (Txt.splitOn 46 t).length := by
        rw [Txt.splitOn, if_neg h6]
        cases hs : Txt.splitOn 46 t with
        | nil => exact absurd hs (Txt.splitOn_ne 46 t)
        | cons a b => rfl
      rw [e1, List.append_assoc]; rfl
theorem split_two (c : UInt8) : ∀ l : List UInt8, decide (2 ≤ (Txt.splitOn c l).length) = l.contains c
  | [] => rfl
  | x :: t => by
    have ih := split_two c t
    rw [Txt.splitOn]
    by_cases h : x = c
    · subst h
      rw [if_pos rfl, List.length_cons]
      have : 1 ≤ (Txt.splitOn x t).length := by
        cases hs : Txt.splitOn x t with
        | nil => exact absurd hs (Txt.splitOn_ne x t)
        | cons a b => simp
      rw [decide_eq_true (by omega)]; simp
    · rw [if_neg h]
      cases hs : Txt.splitOn c t with
      | nil => exact absurd hs (Txt.splitOn_ne c t)
      | cons a b =>
        rw [hs] at ih
        rw [List.length_cons] at ih ⊢
        rw [ih]
        have : (c == x) = false := by simpa using fun e => h e.symm
        rw [List.contains_cons, this]; rfl
theorem oid_law (l : List UInt8) : oidGo l [] 0 = (l.contains 46 && (Txt.splitOn 46 l).all Dn.numB) := by
  rw [oid_go l [] 0 rfl, Nat.zero_add, split_two, List.nil_append]
theorem letter_fn (c : UInt8) : Fn Tryz.prog X 68 [.v (.int .u8 c.toNat)] (.v (.bool (Dn.letter c))) := by
  refine fn_prog tabOk mixed Tryz.f68 Tryz.func68 (by kernel_rfl) (by kernel_rfl) ?_
  conv => whnf
  (repeat' (first | (refine ⟨rfl, cmp_split (fun h => ?_) (fun h => ?_)⟩ <;> (conv => whnf)) | fail))
  all_goals exact ⟨.inl (congrArg V.bool (by unfold Dn.letter; simp; omega)), rfl⟩
theorem digit7_fn (c : UInt8) : Fn Tryz.prog X 69 [.v (.int .u8 c.toNat)] (.v (.bool (Dn.digit c))) := by
  refine fn_prog tabOk mixed Tryz.f69 Tryz.func69 (by kernel_rfl) (by kernel_rfl) ?_
  conv => whnf
  (repeat' (first | (refine ⟨rfl, cmp_split (fun h => ?_) (fun h => ?_)⟩ <;> (conv => whnf)) | fail))
  all_goals exact ⟨.inl (congrArg V.bool (by unfold Dn.digit; simp; omega)), rfl⟩
theorem key_fn (s : ByteArray) (hs : s.size ≤ 1000000) : Fn Tryz.prog X 48 [.v (.str s)] (.v (.bool (Dn.keyB s.data.toList))) := by
  refine fn_prog tabOk mixed Tryz.f48 Tryz.func48 (by kernel_rfl) (by kernel_rfl) ?_
  conv => whnf
  refine cmp_split (fun h => ?_) (fun h => ?_)
  · subst h
    conv => whnf
    exact ⟨.inl rfl, rfl⟩
  have h0 : 0 < s.size := by
    rcases Nat.eq_zero_or_pos s.size with e | e
    · exact absurd (ByteArray.ext (Array.eq_empty_of_size_eq_zero e)) h
    · exact e
  conv => whnf
  refine st_byte (i := 0) h0 ?_
  conv => whnf
  have hl : s.data.toList = s[0] :: s.data.toList.drop 1 := by rw [← Txt.drop_cons s 0 h0]; rfl
  refine st_callB (letter_fn s[0]) ⟨.inl rfl, trivial⟩ rfl (fun h1 => ?_) (fun h1 => ?_)
  · conv => whnf
    have hk : Dn.keyB s.data.toList = s.data.toList.all Dn.keyRest := by
      rw [hl]
      show (Dn.letter s[0] && _) = (Dn.keyRest s[0] && _)
      unfold Dn.keyRest
      rw [h1]; rfl
    rw [hk]
    clear hk hl
    refine ⟨Nat, fun k => ⟨36, [(0, .v (.str s)), (3, .v (.int .i64 (k : Nat)))], [], []⟩, fun k => k ≤ s.size ∧ s.data.toList.all Dn.keyRest = (s.data.toList.drop k).all Dn.keyRest, fun k => s.size - k, ⟨0, [], ⟨by omega, rfl⟩, ?_⟩, fun k ⟨hk, ha⟩ => ?_⟩
    · exact ⟨rfl, rfl, ⟨.inl rfl, .inl rfl, trivial⟩, trivial, trivial⟩
    conv => whnf
    refine ⟨rfl, cmp_split (fun h => ?_) (fun h => ?_)⟩
    · have hkl : k < s.size := by omega
      conv => whnf
      obtain ⟨b, hb⟩ : ∃ b, b = s[k] := ⟨_, rfl⟩
      rw [Txt.drop_cons s k hkl, ← hb, List.all_cons] at ha
      obtain ⟨D, hD⟩ : ∃ D : Bool, D = (b == 45) := ⟨_, rfl⟩
      have iD : ((b.toNat : Nat) : Int) ≠ 45 ↔ (!D) = true := by rw [hD, Bool.not_eq_true', beq_eq_false_iff_ne, ne_eq, ne_eq, ← UInt8.toNat_inj]; show _ ↔ ¬ b.toNat = 45; omega
      have hkr : Dn.keyRest b = (Dn.letter b || Dn.digit b || D) := by
        unfold Dn.keyRest
        rw [hD]
        congr 1
        rw [Bool.eq_iff_iff, decide_eq_true_eq, beq_iff_eq, ← UInt8.toNat_inj]; rfl
      rw [hkr] at ha
      clear hD hkr
      refine st_byteE hkl hb ?_
      conv => whnf
      refine st_callB (letter_fn b) ⟨.inl rfl, trivial⟩ rfl (fun h => ?_) (fun h => ?_)
      rotate_left
      focus
        conv => whnf
        refine st_byteE hkl hb ?_
        conv => whnf
        refine st_callB (digit7_fn b) ⟨.inl rfl, trivial⟩ rfl (fun h => ?_) (fun h => ?_)
        rotate_left
        focus
          conv => whnf
          refine st_byteE hkl hb ?_
          conv => whnf
          refine ⟨rfl, cmp_iff iD (fun h => ?_) (fun h => ?_)⟩
      all_goals conv => whnf
      all_goals first
        | exact ⟨.inl (congrArg V.bool (by rw [ha]; clear ha hb; cases D <;> simp_all)), rfl⟩
        | (refine st_add k 1 (by omega) ?_
           conv => whnf
           refine ⟨k + 1, [], ⟨hkl, by rw [ha]; clear ha hb; cases D <;> simp_all⟩, by dsimp only; omega, ?_⟩
           exact ⟨rfl, rfl, ⟨.inl rfl, .inl rfl, trivial⟩, trivial, trivial⟩)
    · conv => whnf
      exact ⟨.inl (congrArg V.bool (by rw [ha, List.drop_eq_nil_of_le (by simp; omega)]; rfl)), rfl⟩
  · conv => whnf
    exact ⟨.inl (congrArg V.bool (by rw [hl]; show false = (Dn.letter s[0] && _); rw [h1]; rfl)), rfl⟩
theorem take_drop (l : List UInt8) (i : Nat) : (l.take i).drop i = [] := List.drop_eq_nil_of_le (by simp; omega)
set_option maxHeartbeats 4000000 in
theorem oid_fn (s : ByteArray) (hs : s.size ≤ 1000000) : Fn Tryz.prog X 49 [.v (.str s)] (.v (.bool (s.data.toList.contains 46 && (Txt.splitOn 46 s.data.toList).all Dn.numB))) := by
  rw [← oid_law]
  refine fn_prog tabOk mixed Tryz.f49 Tryz.func49 (by kernel_rfl) (by kernel_rfl) ?_
  conv => whnf
  refine ⟨Nat × Nat × Nat, fun x => ⟨55, [(0, .v (.str s)), (3, .v (.int .i64 (x.1 : Nat))), (4, .v (.int .i64 (x.2.1 : Nat))), (5, .v (.int .i64 (x.2.2 : Nat)))], [], []⟩, fun x => x.1 ≤ x.2.2 ∧ x.2.1 ≤ x.2.2 ∧ ((x.2.2 ≤ s.size ∧ oidGo s.data.toList [] 0 = oidGo (s.data.toList.drop x.2.2) ((s.data.toList.take x.2.2).drop x.1) x.2.1) ∨ (x.2.2 = s.size + 1 ∧ oidGo s.data.toList [] 0 = decide (2 ≤ x.2.1))), fun x => s.size + 1 - x.2.2, ⟨(0, 0, 0), [], ⟨by dsimp only; omega, by dsimp only; omega, .inl ⟨by dsimp only; omega, rfl⟩⟩, ?_⟩, fun x hx => ?_⟩
  · exact ⟨rfl, rfl, ⟨.inl rfl, .inl rfl, .inl rfl, .inl rfl, trivial⟩, trivial, trivial⟩
  obtain ⟨a, p, i⟩ := x
  obtain ⟨hai, hpi, hh⟩ := hx
  dsimp only at hai hpi hh
  conv => whnf
  refine ⟨rfl, cmp_split (fun h => ?_) (fun h => ?_)⟩
  · dsimp only at h
    obtain ⟨hi, hr⟩ : i ≤ s.size ∧ oidGo s.data.toList [] 0 = oidGo (s.data.toList.drop i) ((s.data.toList.take i).drop a) p := by
      rcases hh with hh | ⟨h1, _⟩
      · exact hh
      · omega
    clear hh
    obtain ⟨cur, hcur⟩ : ∃ cur, cur = (s.data.toList.take i).drop a := ⟨_, rfl⟩
    rw [← hcur] at hr
    have hcl : cur.length = i - a := by rw [hcur]; simp; omega
    conv => whnf
    -- the number that ends here
    obtain ⟨A, hA⟩ : ∃ A : Bool, A = decide (i = a) := ⟨_, rfl⟩
    obtain ⟨B, hB⟩ : ∃ B : Bool, B = decide (a + 1 < i) := ⟨_, rfl⟩
    have iA : ((i : Nat) : Int) = ((a : Nat) : Int) ↔ A = true := by rw [hA, decide_eq_true_eq]; omega
    have iB : ((a + 1 : Nat) : Int) < ((i : Nat) : Int) ↔ B = true := by rw [hB, decide_eq_true_eq]; omega
    have ok : (A = true → numOk cur = false) ∧ (A = false → ∃ ha : a < s.size, numOk cur = !(B && s[a] == 48)) := by
      constructor
      · intro h
        rw [hA, decide_eq_true_eq] at h
        have : cur = [] := List.eq_nil_of_length_eq_zero (by omega)
        rw [this]; rfl
      · intro h
        rw [hA, decide_eq_false_iff_not] at h
        have ha : a < s.size := by omega
        refine ⟨ha, ?_⟩
        have : ∃ t, cur = s[a] :: t := by
          have hlt : a < (s.data.toList.take i).length := by simp; omega
          refine ⟨(s.data.toList.take i).drop (a + 1), ?_⟩
          rw [hcur, List.drop_eq_getElem_cons hlt, List.getElem_take]
          rfl
        obtain ⟨t, ht⟩ := this
        rw [ht] at hcl
        rw [List.length_cons] at hcl
        unfold numOk
        rw [hB, ht, Bool.eq_iff_iff]
        simp
        constructor
        · rintro (h1 | h1)
          · left; subst h1; simp at hcl; omega
          · exact .inr h1
        · rintro (h1 | h1)
          · left; exact List.eq_nil_of_length_eq_zero (by omega)
          · exact .inr h1
    clear hA hB
    by_cases hil : i < s.size
    · obtain ⟨c, hc⟩ : ∃ c, c = s[i] := ⟨_, rfl⟩
      rw [Txt.drop_cons s i hil, ← hc, oidGo] at hr
      have hcur1 : (s.data.toList.take (i + 1)).drop a = cur ++ [c] := by
        rw [Txt.take_snoc s i hil, List.drop_append_of_le_length (by simp; omega), ← hcur, hc]
      obtain ⟨P, hP⟩ : ∃ P : Bool, P = decide (c = 46) := ⟨_, rfl⟩
      have iP : ((c.toNat : Nat) : Int) ≠ 46 ↔ (!P) = true := by rw [hP, Bool.not_eq_true', decide_eq_false_iff_not, ne_eq, ← UInt8.toNat_inj]; show _ ↔ ¬ c.toNat = 46; omega
      refine ⟨rfl, cmp_true (by dsimp only; omega) ?_⟩
      conv => whnf
      refine st_byteE hil hc ?_
      conv => whnf
      refine st_callB (digit7_fn c) ⟨.inl rfl, trivial⟩ rfl (fun h1 => ?_) (fun h1 => ?_)
      · conv => whnf
        rw [h1, if_pos rfl] at hr
        refine st_add i 1 (by omega) ?_
        conv => whnf
        refine ⟨(a, p, i + 1), [], ⟨by dsimp only; omega, by dsimp only; omega, .inl ⟨hil, by rw [hr, hcur1]⟩⟩, by dsimp only; omega, ?_⟩
        exact ⟨rfl, rfl, ⟨.inl rfl, .inl rfl, .inl rfl, .inl rfl, trivial⟩, trivial, trivial⟩
      · conv => whnf
        rw [h1, if_neg (by simp)] at hr
        refine ⟨rfl, cmp_true (by dsimp only; omega) ?_⟩
        conv => whnf
        refine st_byteE hil hc ?_
        conv => whnf
        refine ⟨rfl, cmp_iff iP (fun h2 => ?_) (fun h2 => ?_)⟩
        · conv => whnf
          rw [hP, Bool.not_eq_true', decide_eq_false_iff_not] at h2
          rw [if_neg h2] at hr
          exact ⟨.inl (congrArg V.bool hr.symm), rfl⟩
        · conv => whnf
          rw [hP, Bool.not_eq_false', decide_eq_true_eq] at h2
          rw [if_pos h2] at hr
          refine ⟨rfl, cmp_iff iA (fun h3 => ?_) (fun h3 => ?_)⟩
          · conv => whnf
            rw [ok.1 h3, Bool.false_and] at hr
            exact ⟨.inl (congrArg V.bool hr.symm), rfl⟩
          · obtain ⟨ha, hok⟩ := ok.2 h3
            obtain ⟨x, hx⟩ : ∃ x, x = s[a] := ⟨_, rfl⟩
            obtain ⟨D, hD⟩ : ∃ D : Bool, D = (x == 48) := ⟨_, rfl⟩
            have iD : ((x.toNat : Nat) : Int) = 48 ↔ D = true := by rw [hD, beq_iff_eq, ← UInt8.toNat_inj]; show _ ↔ x.toNat = 48; omega
            rw [← hx, ← hD] at hok
            conv => whnf
            refine st_add a 1 (by omega) ?_
            conv => whnf
            (repeat' (first | ((refine ⟨rfl, cmp_iff iB (fun h => ?_) (fun h => ?_)⟩) <;> (conv => whnf)) | ((refine ⟨rfl, cmp_iff iD (fun h => ?_) (fun h => ?_)⟩) <;> (conv => whnf)) | ((refine st_byteE ha hx ?_) <;> (conv => whnf)) | fail))
            all_goals first
              | exact ⟨.inl (congrArg V.bool (by rw [hr, hok]; clear hD hx iD hr hok; simp [*])), rfl⟩
              | (refine st_add p 1 (by omega) ?_
                 conv => whnf
                 refine st_add i 1 (by omega) ?_
                 conv => whnf
                 refine st_add i 1 (by omega) ?_
                 conv => whnf
                 refine ⟨(i + 1, p + 1, i + 1), [], ⟨by dsimp only; omega, by dsimp only; omega, .inl ⟨hil, ?_⟩⟩, by dsimp only; omega, ?_⟩
                 · dsimp only
                   rw [hr, hok, take_drop]; clear hD hx iD hr hok; simp [*]
                 · exact ⟨rfl, rfl, ⟨.inl rfl, .inl rfl, .inl rfl, .inl rfl, trivial⟩, trivial, trivial⟩)
    · rw [List.drop_eq_nil_of_le (by simp; omega), oidGo] at hr
      refine ⟨rfl, cmp_false (by dsimp only; omega) ?_⟩
      conv => whnf
      refine ⟨rfl, cmp_false (by dsimp only; omega) ?_⟩
      conv => whnf
      refine ⟨rfl, cmp_iff iA (fun h3 => ?_) (fun h3 => ?_)⟩
      · conv => whnf
        rw [ok.1 h3, Bool.false_and] at hr
        exact ⟨.inl (congrArg V.bool hr.symm), rfl⟩
      · obtain ⟨ha, hok⟩ := ok.2 h3
        obtain ⟨x, hx⟩ : ∃ x, x = s[a] := ⟨_, rfl⟩
        obtain ⟨D, hD⟩ : ∃ D : Bool, D = (x == 48) := ⟨_, rfl⟩
        have iD : ((x.toNat : Nat) : Int) = 48 ↔ D = true := by rw [hD, beq_iff_eq, ← UInt8.toNat_inj]; show _ ↔ x.toNat = 48; omega
        rw [← hx, ← hD] at hok
        conv => whnf
        refine st_add a 1 (by omega) ?_
        conv => whnf
        (repeat' (first | ((refine ⟨rfl, cmp_iff iB (fun h => ?_) (fun h => ?_)⟩) <;> (conv => whnf)) | ((refine ⟨rfl, cmp_iff iD (fun h => ?_) (fun h => ?_)⟩) <;> (conv => whnf)) | ((refine st_byteE ha hx ?_) <;> (conv => whnf)) | fail))
        all_goals first
          | exact ⟨.inl (congrArg V.bool (by rw [hr, hok]; clear hD hx iD hr hok; simp [*])), rfl⟩
          | (refine st_add p 1 (by omega) ?_
             conv => whnf
             refine st_add i 1 (by omega) ?_
             conv => whnf
             refine st_add i 1 (by omega) ?_
             conv => whnf
             refine ⟨(i + 1, p + 1, i + 1), [], ⟨by dsimp only; omega, by dsimp only; omega, .inr ⟨by dsimp only; omega, ?_⟩⟩, by dsimp only; omega, ?_⟩
             · dsimp only
               rw [hr, hok]; clear hD hx iD hr hok; simp [*]
             · exact ⟨rfl, rfl, ⟨.inl rfl, .inl rfl, .inl rfl, .inl rfl, trivial⟩, trivial, trivial⟩)
  · dsimp only at h
    obtain ⟨hi, hr⟩ : i = s.size + 1 ∧ oidGo s.data.toList [] 0 = decide (2 ≤ p) := by
      rcases hh with ⟨h1, _⟩ | hh
      · omega
      · exact hh
    conv => whnf
    refine ⟨rfl, cmp_split (fun h2 => ?_) (fun h2 => ?_)⟩
    all_goals
      dsimp only at h2
      conv => whnf
      exact ⟨.inl (congrArg V.bool (by rw [hr]; simp; omega)), rfl⟩
theorem isType_fn (s : ByteArray) (hs : s.size ≤ 1000000) : Fn Tryz.prog X 26 [.v (.str s)] (.v (.bool (Dn.typeB s.data.toList))) := by
  have hl : s.data.toList.length = s.size := by simp
  have ht : Dn.typeB s.data.toList = (decide (s.size ≤ 20) && (Dn.keyB s.data.toList || (s.data.toList.contains 46 && (Txt.splitOn 46 s.data.toList).all Dn.numB))) := by unfold Dn.typeB; rw [hl]
  have ok := oid_fn (X := X) s hs
  obtain ⟨O, hO⟩ : ∃ O : Bool, O = (s.data.toList.contains 46 && (Txt.splitOn 46 s.data.toList).all Dn.numB) := ⟨_, rfl⟩
  rw [← hO] at ok ht
  rw [ht]
  refine fn_prog tabOk mixed Tryz.f26 Tryz.func26 (by kernel_rfl) (by kernel_rfl) ?_
  conv => whnf
  (repeat' (first | ((refine ⟨rfl, cmp_split (fun h => ?_) (fun h => ?_)⟩) <;> (conv => whnf)) | (((with_reducible apply st_callB (key_fn s hs)); (focus ((repeat' (first | exact trivial | exact rfl | exact Or.inl rfl | exact Or.inr ⟨rfl, rfl⟩ | refine And.intro ?_ ?_)); done)); (focus (exact rfl)); (all_goals intro h)) <;> (conv => whnf)) | (((with_reducible apply st_callB (ok)); (focus ((repeat' (first | exact trivial | exact rfl | exact Or.inl rfl | exact Or.inr ⟨rfl, rfl⟩ | refine And.intro ?_ ?_)); done)); (focus (exact rfl)); (all_goals intro h)) <;> (conv => whnf)) | fail))
  all_goals
    have h20 : decide (s.size ≤ 20) = decide ((s.size : Int) ≤ 20) := by rw [decide_eq_decide]; omega
    exact ⟨.inl (congrArg V.bool (by rw [h20]; clear h20 hO; simp [*])), rfl⟩
end Go.Proofs.YtjmpkbmgcbalkaaGreatDoor.Rf
/- Between two ways of telling how a slice lies: views, and values without memory. Whatever program; a function's contract told in one way, told in the other one. -/
namespace Go.Proofs.YtjmpkbmgcbalkaaGreatDoor
open Go.RowKit
set_option linter.unusedVariables false
/-- every cell that is there -/
def Lall (w : World) : Lv := fun b o => ∃ u, w.cell? ⟨b, o, none⟩ = some u
theorem rep_view {α : Type} {k : Nat} {enc : α → List V} {R : View α} {w : World} {L : Lv} (hk0 : 0 < k) (hk : ∀ x, (enc x).length = k) (hR : ∀ x cs, RepL w L (enc x) cs → R w (fun _ => True) cs x) {xs : List α} {v : Value} (h : Rep w L (.sl (xs.map enc)) v) : VSlice k R w (fun _ => True) [v] xs := by
  obtain ⟨A, c, rfl, hl, hx⟩ := h
  rw [List.length_map] at hl
  refine ⟨A, c, by rw [List.length_map], hl, fun hn => ?_⟩
  obtain ⟨b, o, e, rfl, hr⟩ := hx (by simpa using hn)
  have key : ∀ (j : Nat) (x : α), xs[j]? = some x → ∃ ws, R w (fun _ => True) ws x ∧ ws.length = k ∧ e = k ∧ ∀ (i : Nat) (u : Value), ws[i]? = some u → w.cell? ⟨b, o + (j * k + i), none⟩ = some u := fun j x hj => by
    obtain ⟨h1, h2⟩ := hr.get (i := j) (c := enc x) (by rw [List.getElem?_map, hj]; rfl)
    obtain ⟨cs, c1, c2, c3⟩ := h2.vals
    have he : e = k := by rw [← h1, hk]
    subst he
    exact ⟨cs, hR x cs c2, by rw [c1, hk], rfl, fun i u hu => by rw [show o + (j * e + i) = o + j * e + i by omega]; exact c3 i u hu⟩
  refine ⟨b, o, rfl, trivial, ?_, fun j x hj => ?_⟩
  · obtain ⟨x, t, rfl⟩ : ∃ x t, xs = x :: t := by cases xs with
      | nil => exact absurd rfl hn
      | cons x t => exact ⟨x, t, rfl⟩
    obtain ⟨ws, h1, h2, h3, h4⟩ := key 0 x rfl
    obtain ⟨u, hu⟩ : ∃ u, ws[0]? = some u := ⟨_, List.getElem?_eq_getElem (by omega)⟩
    exact World.block_lt_of_cell? w _ (h4 0 u hu)
  · obtain ⟨ws, h1, _, _, h2⟩ := key j x hj
    exact ⟨ws, h1, h2⟩
theorem view_rep {α : Type} {k : Nat} {enc : α → List V} {R : View α} {w : World} (hR : ∀ x cs, R w (fun _ => True) cs x → RepL w (Lall w) (enc x) cs) (hk : ∀ x, (enc x).length = k) {xs : List α} {v : Value} (h : VSlice k R w (fun _ => True) [v] xs) : Rep w (Lall w) (.sl (xs.map enc)) v := by
  obtain ⟨A, c, rfl, hl, hx⟩ := h.open
  refine ⟨A, c, by rw [List.length_map], by rw [List.length_map]; exact hl, fun hn => ?_⟩
  obtain ⟨b, o, rfl, _, _, hr⟩ := hx (by simpa using hn)
  refine ⟨b, o, k, rfl, RepE.of_get _ _ fun i cc hc => ?_⟩
  rw [List.getElem?_map] at hc
  obtain ⟨x, hxi, rfl⟩ := Option.map_eq_some_iff.1 hc
  obtain ⟨ws, h1, h2⟩ := hr i x hxi
  have h3 := hR x ws h1
  refine ⟨hk x, RepC.of_get _ _ fun j y hy => ?_⟩
  obtain ⟨u, hu, ho, hru⟩ := h3.get hy
  have := h2 j u hu
  rw [show o + (i * k + j) = o + i * k + j by omega] at this
  exact ⟨u, ⟨u, this⟩, this, ho, hru⟩
/-- a contract whose result needs no memory -/
theorem Fn.of_plain {P : Program} {X : En} {f : FuncId} {args : List T} {r : V} (hen : ∀ (vs : Array Value) (w : World), (callFunc f vs).run P w = .ok (.enter f vs) w) (hr : zok r = true)
    (h : ∀ (w : World) (L : Lv) (vs : List Value), X.E w → RepTs P w ⟨L, fun _ => (0, 0), fun _ => undef⟩ args vs → Calls P f vs.toArray w fun e w' => e = .returned (zv r) ∧ Below w.heap.size w w') : Fn P X f args (.v r) :=
  ⟨hen, fun w L vs hE hL ha => (h w L vs hE ha).mono fun e w' ⟨he, hb⟩ => ⟨zv r, L, he, hb, Same.of_below hb, .inl, fun hl => let ⟨u, hu⟩ := hL hl; ⟨u, cell_below hu hb⟩, by cases r <;> first | rfl | cases hr⟩⟩
/-- what the walks ask of the variables, and where these lie -/
def envX (p : Nat → Addr) : En where
  E := fun w => Env w p
  Eb := fun b => b ∈ senNums ∨ (∃ n, n ∈ senNums ∧ (p n).block = b) ∨ b = 1 ∨ b = 2 ∨ b = 4 ∨ b = 5
  lt := fun {w b} h hb => by
    rcases hb with hb | ⟨n, hn, rfl⟩ | rfl | rfl | rfl | rfl
    · have := World.block_lt_of_cell? w _ (h.gl.cell b hb); simpa using this
    · obtain ⟨c, t, hc⟩ := h.gl.blk n hn; exact (Array.getElem?_eq_some_iff.1 hc).1
    · have := World.block_lt_of_cell? w _ h.gl.et; simpa using this
    · obtain ⟨m, hm⟩ := h.ml; have := World.block_lt_of_cell? w _ hm; simpa using this
    · have := World.block_lt_of_cell? w _ (h.ut.1 0 (by omega)); simpa using this
    · have := World.block_lt_of_cell? w _ (h.ut.2 0 (by omega)).1; simpa using this
  upd := fun {S w w'} hu hS h => by
    refine ⟨h.gl.upd ⟨fun n hn => ⟨fun hs => hS n hs (.inl hn), fun hs => hS _ hs (.inr (.inl ⟨n, hn, rfl⟩))⟩, fun hs => hS _ hs (.inr (.inr (.inl rfl)))⟩ hu, h.ml.imp fun m hm => hu.cell hm (fun hs => hS _ hs (.inr (.inr (.inr (.inl rfl))))), ⟨fun c hc => hu.cell (h.ut.1 c hc) (fun hs => hS _ hs (.inr (.inr (.inr (.inr (.inl rfl)))))), fun i hi => ⟨hu.cell (h.ut.2 i hi).1 (fun hs => hS _ hs (.inr (.inr (.inr (.inr (.inr rfl)))))), hu.cell (h.ut.2 i hi).2 (fun hs => hS _ hs (.inr (.inr (.inr (.inr (.inr rfl))))))⟩⟩⟩
end Go.Proofs.YtjmpkbmgcbalkaaGreatDoor
/- dn: which names are the same, and under each other (isSame, Same, IsUnder). Conditions: the names read as they lie. -/
namespace Go.Proofs.YtjmpkbmgcbalkaaGreatDoor.Dn
open Go.RowKit Go.Shelf Go.Lib
set_option linter.unusedVariables false
theorem neq_ava (a b : Ava) (w : World) : (binOp .neq 39 (.agg #[.string a.1, .string a.2]) (.agg #[.string b.1, .string b.2])).run Tryz.prog w = .ok (.bool (!decide (a = b))) w := by
  obtain ⟨a1, a2⟩ := a
  obtain ⟨b1, b2⟩ := b
  have e1 : (a1.toList = b1.toList) = (a1 = b1) := by rw [ByteArray.toList_eq, ByteArray.toList_eq]; exact propext ⟨fun h => by rw [← Txt.mk_list a1, h, Txt.mk_list], fun h => by rw [h]⟩
  have e2 : (a2.toList = b2.toList) = (a2 = b2) := by rw [ByteArray.toList_eq, ByteArray.toList_eq]; exact propext ⟨fun h => by rw [← Txt.mk_list a2, h, Txt.mk_list], fun h => by rw [h]⟩
  by_cases h1 : a1 = b1 <;> by_cases h2 : a2 = b2
  all_goals
    simp only [Prod.mk.injEq, h1, h2, and_self, and_true, and_false, decide_true, decide_false, Bool.not_true, Bool.not_false]
    go_simp
set_option maxRecDepth 100000 in
theorem rdnSame_calls (v v' : Value) (r r' : Rdn) (w : World) (hv : VRdn w (fun _ => True) [v] r) (hv' : VRdn w (fun _ => True) [v'] r') (hr : r.length ≤ 1000000000) :
    Calls Tryz.prog 41 #[.agg #[v], .agg #[v']] w fun e w' => e = .returned (.bool (decide (r = r'))) ∧ Below w.heap.size w w' := by
  obtain ⟨A, c, rfl, _, hx⟩ := VSlice.open hv
  obtain ⟨A', c', rfl, _, hy⟩ := VSlice.open hv'
  have HX := Aside.mk hx
  have HY := Aside.mk hy
  clear hx hy hv hv'
  have HB0 := Aside.mk (below_then (below_new w (.cells #[.slice A r.length c] 42)) (below_new (w.alloc (.cells #[.slice A r.length c] 42)) (.cells #[.slice A' r'.length c'] 42)))
  go_enter Tryz.func41, Tryz.ntmps41
  go_wp2_with fail
  go_loopg [13] (min r.length r'.length) (fun gk v13 wr => ∃ (k : Nat), v13 = .int .i64 k ∧ Aside (k + gk = min r.length r'.length ∧ r.take k = r'.take k ∧ Below w.heap.size w wr ∧ wr.heap[w.heap.size]? = some (.cells #[.slice A r.length c] 42 (0, 0)) ∧ wr.heap[w.heap.size + 1]? = some (.cells #[.slice A' r'.length c'] 42 (0, 0))))
  case atStart => exact ⟨0, rfl, ⟨by omega, rfl, HB0.out, blk_below (World.alloc_heap_new w _) (below_new _ _), by have := World.alloc_heap_new (w.alloc (.cells #[.slice A r.length c] 42)) (.cells #[.slice A' r'.length c'] 42); simpa using this⟩⟩
  case round =>
    obtain ⟨k, rfl, HI⟩ := hrel
    obtain ⟨i1, i2, i3, i4, i5⟩ := HI.out
    clear HI
    have I2 := Aside.mk i2
    have I3 := Aside.mk i3
    have d0 := cel i4 0 rfl
    have d1 := cel i5 0 rfl
    have I4 := Aside.mk i4
    have I5 := Aside.mk i5
    clear i2 i3 i4 i5
    by_cases hk : k < min r.length r'.length
    · obtain ⟨m, rfl⟩ : ∃ m, gk = m + 1 := ⟨gk - 1, by omega⟩
      have hki : (k : Int) < min (r.length : Int) (r'.length : Int) := by omega
      have hkX : k < r.length := by omega
      have hkY : k < r'.length := by omega
      have hkx : (k : Int) < (r.length : Int) := by omega
      have hky : (k : Int) < (r'.length : Int) := by omega
      obtain ⟨bX, oX, rfl, _, hbX, hcX⟩ := HX.out (by rintro rfl; simp at hkX)
      obtain ⟨bY, oY, rfl, _, hbY, hcY⟩ := HY.out (by rintro rfl; simp at hkY)
      obtain ⟨wsX, eX, fX⟩ := hcX k _ (List.getElem?_eq_getElem hkX)
      obtain ⟨wsY, eY, fY⟩ := hcY k _ (List.getElem?_eq_getElem hkY)
      rw [eX.cells] at fX
      rw [eY.cells] at fY
      have x0 : wr.cell? ⟨bX, oX + k * 2, none⟩ = some (.string r[k].1) := cell_below (fX 0 _ rfl) I3.out
      have x1 : wr.cell? ⟨bX, oX + k * 2 + 1, none⟩ = some (.string r[k].2) := cell_below (fX 1 _ rfl) I3.out
      have y0 : wr.cell? ⟨bY, oY + k * 2, none⟩ = some (.string r'[k].1) := cell_below (fY 0 _ rfl) I3.out
      have y1 : wr.cell? ⟨bY, oY + k * 2 + 1, none⟩ = some (.string r'[k].2) := cell_below (fY 1 _ rfl) I3.out
      have HS := Aside.mk (And.intro (List.take_succ_eq_append_getElem hkX) (List.take_succ_eq_append_getElem hkY))
      have HQ := Aside.mk (fun W => neq_ava r[k] r'[k] W)
      have HNe := Aside.mk (show r[k] ≠ r'[k] → r ≠ r' by rintro h rfl; exact h rfl)
      generalize r[k] = x at x0 x1 HS HQ HNe
      generalize r'[k] = y at y0 y1 HS HQ HNe
      clear eX eY fX fY hcX hcY hk
      by_cases hxy : x = y
      · have hq := HQ.out
        rw [decide_eq_true hxy] at hq
        have HXY := Aside.mk hxy
        clear hxy
        go_wp2_with fail
        go_quiet (fail)
        go_wp2
        go_roundg m
        case measure => omega
        case rel => exact ⟨k + 1, by go_num, ⟨by omega, by rw [HS.out.1, HS.out.2, I2.out, HXY.out], below_then I3.out (below_drewN _ _), I4.out, I5.out⟩⟩
      · have hq := HQ.out
        rw [decide_eq_false hxy] at hq
        have HXY := Aside.mk (HNe.out hxy)
        clear hxy
        go_wp2_with fail
        go_quiet (fail)
        go_wp2
        go_ret
        exact ⟨by rw [decide_eq_false HXY.out]; rfl, below_then I3.out (below_drewN _ _)⟩
    · have hki : min (r.length : Int) (r'.length : Int) ≤ (k : Int) := by omega
      have HK := Aside.mk hk
      have HE := Aside.mk (show decide (r = r') = decide (r.length = r'.length) by
        rw [decide_eq_decide]
        constructor
        · rintro rfl; rfl
        · intro h
          have h2 := I2.out
          rwa [List.take_of_length_le (by omega), List.take_of_length_le (by omega)] at h2)
      clear hk
      go_wp2
      go_ret
      refine ⟨?_, I3.out⟩
      rw [HE.out]
      exact congrArg (fun b => Ending.returned (Value.bool b)) (by rw [Bool.eq_iff_iff]; simp; omega)
/-- names whose lists are within bounds -/
def NameOk (d : Name) : Prop := d.length ≤ 1000000000 ∧ ∀ r ∈ d, r.length ≤ 1000000000
theorem same_calls (v v' : Value) (d d' : Name) (w : World) (hv : VName w (fun _ => True) [v] d) (hv' : VName w (fun _ => True) [v'] d') (hd : NameOk d) :
    Calls Tryz.prog 21 #[v, v'] w fun e w' => e = .returned (.bool (decide (d = d'))) ∧ Below w.heap.size w w' := by
  have HH : Aside (Calls Tryz.prog 40 #[v, v', .func (.func 41) #[] #[]] w fun e w' => e = .returned (.bool (eqL (fun x y : Rdn => decide (x = y)) d d')) ∧ Below w.heap.size w w') :=
    ⟨EqFRdn.equal_calls VRdn.ok (fun h => h.cells) (fun x y : Rdn => decide (x = y)) 41 (enters_of Tryz.func41 (by kernel_rfl) rfl) v v' d d' w hv hv' (fun W vx vy x y hx hb h1 h2 => by
      obtain ⟨A, n, c, rfl⟩ := h1.cells
      obtain ⟨A', n', c', rfl⟩ := h2.cells
      exact rdnSame_calls _ _ x y W h1 h2 (hd.2 x hx)) hd.1⟩
  have HE := Aside.mk (show eqL (fun x y : Rdn => decide (x = y)) d d' = decide (d = d') by rw [Bool.eq_iff_iff, eqL_iff _ _ (fun x _ y => by simp)]; simp)
  clear hv hv'
  go_enter Tryz.func21, Tryz.ntmps21
  go_wp2_with fail
  refine HH.out.mono ?_
  rintro e w1 ⟨rfl, hb⟩
  have HB := Aside.mk hb
  clear hb
  go_wp2
  go_ret
  exact ⟨by rw [← HE.out]; rfl, HB.out⟩
/-- is a name under another one? -/
def underB (d b : Name) : Bool := decide (b.length ≤ d.length) && decide (d.drop (d.length - b.length) = b)
theorem under_calls (v v' : Value) (d b : Name) (w : World) (hv : VName w (fun _ => True) [v] d) (hv' : VName w (fun _ => True) [v'] b) (hd : NameOk d) (hb : b.length ≤ 1000000000) :
    Calls Tryz.prog 23 #[v, v'] w fun e w' => e = .returned (.bool (underB d b)) ∧ Below w.heap.size w w' := by
  have hV := hv
  obtain ⟨A, c, rfl, hlc, hx⟩ := VSlice.open hv
  obtain ⟨A', c', rfl, _, _⟩ := VSlice.open hv'
  have hd1 := hd.1
  have hd2 := hd.2
  have HD := Aside.mk hd2
  have HV' := Aside.mk hv'
  clear hd hd2
  by_cases hl : b.length ≤ d.length
  · have hli : (b.length : Int) ≤ (d.length : Int) := by omega
    have HU := Aside.mk (show underB d b = decide (d.drop (d.length - b.length) = b) by unfold underB; rw [decide_eq_true hl]; rfl)
    have HDO := Aside.mk (show NameOk (d.drop (d.length - b.length)) from ⟨by rw [List.length_drop]; omega, fun r hr => HD.out r (List.mem_of_mem_drop hr)⟩)
    have HV1 := Aside.mk (fun hc => VSlice.from_end hV (d.length - b.length) (by omega) hc)
    have HV2 := Aside.mk (VSlice.from hV (d.length - b.length) (by omega))
    rw [Nat.mul_one] at HV2
    clear hv' hV hv hx
    go_enter Tryz.func23, Tryz.ntmps23
    go_wp2_with fail
    case inl =>
      refine (same_calls _ _ _ b w (HV1.out (by assumption)) HV'.out HDO.out).mono ?_
      rintro e w1 ⟨rfl, hb⟩
      have HB := Aside.mk hb
      clear hb
      go_wp2
      go_ret
      exact ⟨by rw [HU.out]; rfl, HB.out⟩
    case inr =>
      refine (same_calls _ _ _ b w HV2.out HV'.out HDO.out).mono ?_
      rintro e w1 ⟨rfl, hb⟩
      have HB := Aside.mk hb
      clear hb
      go_wp2
      go_ret
      exact ⟨by rw [HU.out]; rfl, HB.out⟩
  · have hli : (d.length : Int) < (b.length : Int) := by omega
    have HU := Aside.mk (show underB d b = false by unfold underB; rw [decide_eq_false hl]; rfl)
    clear hl hx hV hv hv'
    go_enter Tryz.func23, Tryz.ntmps23
    go_wp2_with fail
    go_ret
    exact ⟨by rw [HU.out]; rfl, Below.refl _ _⟩
end Go.Proofs.YtjmpkbmgcbalkaaGreatDoor.Dn
/- dn, plain: what a text says as a name; a right name, printed and read, is itself. -/
namespace Go.Proofs.YtjmpkbmgcbalkaaGreatDoor.Dn
set_option linter.unusedVariables false
/-- all, or none -/
def allM {α β : Type} (f : α → Option β) : List α → Option (List β)
  | [] => some []
  | a :: t => match f a with
    | none => none
    | some b => (allM f t).map (b :: ·)
theorem allM_map {α β : Type} (f : α → Option β) (g : β → α) : ∀ l : List β, (∀ b ∈ l, f (g b) = some b) → allM f (l.map g) = some l
  | [], _ => rfl
  | b :: t, h => by
    rw [List.map_cons, allM, h b (by simp), allM_map f g t (fun x hx => h x (by simp [hx]))]
    rfl
def rdnOf (p : List UInt8) : Option Rdn := allM (fun q => partA ⟨q.toArray⟩) (piecesL 43 p)
def nameOf (s : List UInt8) : Option Name := allM rdnOf (piecesL 44 s)
/-- what a text says -/
def parsedL (s : List UInt8) : Option Name := if s = [] then some [] else (nameOf s).bind fun d => if rightB d then some d else none
def rdnL (r : Rdn) : List UInt8 := joinC 43 (r.map avaL)
def nameL (d : Name) : List UInt8 := joinC 44 (d.map rdnL)
theorem join_closed (c k : UInt8) (hk : k ≠ 92) (hkc : k ≠ c) : ∀ l : List (List UInt8), (∀ x ∈ l, closedL c x = true) → closedL c (joinC k l) = true
  | [], _ => rfl
  | [x], h => h x (by simp)
  | x :: y :: t, h => by
    rw [joinC, closed_append c x _ (h x (by simp)), closed_other c k hk hkc]
    exact join_closed c k hk hkc (y :: t) (fun z hz => h z (by simp at hz ⊢; exact .inr hz))
theorem rdn_read (r : Rdn) (hne : r ≠ []) (h : ∀ a ∈ r, typeB a.1.data.toList = true) : rdnOf (rdnL r) = some r := by
  unfold rdnOf rdnL
  rw [pieces_join 43 (by decide) (r.map avaL) (by simpa using hne) (by
    intro x hx
    obtain ⟨a, ha, rfl⟩ := List.mem_map.1 hx
    exact ava_closed 43 (.inr rfl) a (h a ha))]
  exact allM_map (fun q => partA ⟨q.toArray⟩) avaL r (fun a ha => part_printed a (h a ha))
theorem rdn_closed (r : Rdn) (h : ∀ a ∈ r, typeB a.1.data.toList = true) : closedL 44 (rdnL r) = true := by
  refine join_closed 44 43 (by decide) (by decide) _ (fun x hx => ?_)
  obtain ⟨a, ha, rfl⟩ := List.mem_map.1 hx
  exact ava_closed 44 (.inl rfl) a (h a ha)
theorem name_read (d : Name) (hne : d ≠ []) (h : ∀ r ∈ d, r ≠ [] ∧ ∀ a ∈ r, typeB a.1.data.toList = true) : nameOf (nameL d) = some d := by
  unfold nameOf nameL
  rw [pieces_join 44 (by decide) (d.map rdnL) (by simpa using hne) (by
    intro x hx
    obtain ⟨r, hr, rfl⟩ := List.mem_map.1 hx
    exact rdn_closed r (h r hr).2)]
  exact allM_map rdnOf rdnL d (fun r hr => rdn_read r (h r hr).1 (h r hr).2)
theorem ava_ne (a : Ava) : avaL a ≠ [] := by unfold avaL; simp
theorem join_ne (c : UInt8) (l : List (List UInt8)) (hne : l ≠ []) (h : ∀ x ∈ l, x ≠ []) : joinC c l ≠ [] := by
  match l, hne, h with
  | [x], _, h => exact h x (by simp)
  | x :: y :: t, _, h => rw [joinC]; simp
theorem name_ne (d : Name) (hne : d ≠ []) (h : ∀ r ∈ d, r ≠ []) : nameL d ≠ [] := by
  refine join_ne 44 _ (by simpa using hne) (fun x hx => ?_)
  obtain ⟨r, hr, rfl⟩ := List.mem_map.1 hx
  refine join_ne 43 _ (by simpa using h r hr) (fun y hy => ?_)
  obtain ⟨a, _, rfl⟩ := List.mem_map.1 hy
  exact ava_ne a
theorem right_parts (d : Name) (h : rightB d = true) : ∀ r ∈ d, r ≠ [] ∧ ∀ a ∈ r, typeB a.1.data.toList = true := by
  intro r hr
  unfold rightB at h
  simp only [Bool.and_eq_true] at h
  have h2 := List.all_eq_true.1 h.2 r hr
  unfold rdnB at h2
  simp only [Bool.and_eq_true, decide_eq_true_eq] at h2
  refine ⟨fun e => by rw [e] at h2; simp at h2, fun a ha => ?_⟩
  have h3 := List.all_eq_true.1 h2.2.2 a ha
  unfold avaB at h3
  simp only [Bool.and_eq_true] at h3
  exact h3.1
/-- A RIGHT NAME, PRINTED AND READ, IS ITSELF. -/
theorem parse_print (d : Name) (h : rightB d = true) : parsedL (nameL d) = some d := by
  have hp := right_parts d h
  unfold parsedL
  by_cases hd : d = []
  · subst hd; rfl
  · rw [if_neg (name_ne d hd (fun r hr => (hp r hr).1)), name_read d hd hp]
    simp [h]
theorem parsed_right (s : List UInt8) (d : Name) (h : parsedL s = some d) : rightB d = true := by
  unfold parsedL at h
  split at h
  · cases h; rfl
  · cases hn : nameOf s with
    | none => rw [hn] at h; cases h
    | some e =>
      rw [hn] at h
      simp only [Option.bind_some] at h
      split at h
      · cases h; assumption
      · cases h
end Go.Proofs.YtjmpkbmgcbalkaaGreatDoor.Dn
/- Contracts of functions of Go's library, as the kit's shelf proves them of whatever program, at this program's numbers. Each states its own conditions. -/
namespace Go.Proofs.YtjmpkbmgcbalkaaGreatDoor
open Go.Shelf
def Shelf.Laysn156_ren : Go.Shelf.Ren := ⟨fun | 156 => 56 | 165 => 80 | 166 => 72 | 169 => 73 | 240 => 92 | 241 => 95 | 276 => 108 | 277 => 109 | n => n, fun | 0 => 0 | 3 => 3 | 4 => 4 | 5 => 5 | 9 => 9 | 20 => 20 | 31 => 52 | 37 => 68 | 70 => 90 | 72 => 92 | 75 => 49 | 76 => 98 | 80 => 100 | 127 => 124 | 164 => 105 | n => n, fun  | n => n⟩
theorem Shelf.Laysn156 : Go.Proofs.Lays.n156 Tryz.prog Shelf.Laysn156_ren := {
  mixed := by kernel_rfl
  f156 := Tryz.func56.trans (congrArg some (by kernel_rfl))
  f165 := Tryz.func80.trans (congrArg some (by kernel_rfl))
  f166 := Tryz.func72.trans (congrArg some (by kernel_rfl))
  f169 := Tryz.func73.trans (congrArg some (by kernel_rfl))
  f240 := Tryz.func92.trans (congrArg some (by kernel_rfl))
  f241 := Tryz.func95.trans (congrArg some (by kernel_rfl))
  f276 := Tryz.func108.trans (congrArg some (by kernel_rfl))
  f277 := Tryz.func109.trans (congrArg some (by kernel_rfl))
  t0 := Tryz.underlying0
  a0 := Tryz.isAgg0
  z0 := Tryz.sizeOf0
  v0 := Tryz.zeroValue0
  t3 := Tryz.underlying3
  a3 := Tryz.isAgg3
  z3 := Tryz.sizeOf3
  v3 := Tryz.zeroValue3
  t4 := Tryz.underlying4
  a4 := Tryz.isAgg4
  z4 := Tryz.sizeOf4
  v4 := Tryz.zeroValue4
  t9 := Tryz.underlying9
  a9 := Tryz.isAgg9
  z9 := Tryz.sizeOf9
  v9 := Tryz.zeroValue9
  t20 := Tryz.underlying20
  a20 := Tryz.isAgg20
  z20 := Tryz.sizeOf20
  v20 := Tryz.zeroValue20
  t31 := Tryz.underlying52
  a31 := Tryz.isAgg52
  z31 := Tryz.sizeOf52
  v31 := Tryz.zeroValue52
  t37 := Tryz.underlying68
  a37 := Tryz.isAgg68
  z37 := Tryz.sizeOf68
  v37 := Tryz.zeroValue68
  t70 := Tryz.underlying90
  a70 := Tryz.isAgg90
  z70 := Tryz.sizeOf90
  v70 := Tryz.zeroValue90
  t72 := Tryz.underlying92
  a72 := Tryz.isAgg92
  z72 := Tryz.sizeOf92
  v72 := Tryz.zeroValue92
  t75 := Tryz.underlying49
  a75 := Tryz.isAgg49
  z75 := Tryz.sizeOf49
  v75 := Tryz.zeroValue49
  t76 := Tryz.underlying98
  a76 := Tryz.isAgg98
  z76 := Tryz.sizeOf98
  v76 := Tryz.zeroValue98
  t127 := Tryz.underlying124
  a127 := Tryz.isAgg124
  z127 := Tryz.sizeOf124
  v127 := Tryz.zeroValue124
  t164 := Tryz.underlying105
  a164 := Tryz.isAgg105
  z164 := Tryz.sizeOf105
  v164 := Tryz.zeroValue105 }
theorem Shelf.Builder_Extra_Laysn156 : Builder.Extra Tryz.prog Shelf.Laysn156_ren := {
  sizeBuilder := by kernel_rfl
  liesBuilder := by kernel_rfl
  t5 := Tryz.underlying5
  a5 := Tryz.isAgg5
  z5 := Tryz.sizeOf5
  v5 := Tryz.zeroValue5
  infoByte := by kernel_rfl
  cellsByte := by kernel_rfl
  sizeByte := by kernel_rfl
  neB5 := by decide }
open Go.RowKit in
theorem Shelf.strings_Join_none  (a : Option Addr) (c : Nat) (sep : ByteArray) (w : World) :
    Calls Tryz.prog 56 #[.slice a 0 c, .string sep] w fun e w' => e = .returned (.string ⟨#[]⟩) ∧ w' = w := Any.strings_Join_none Shelf.Laysn156 Shelf.Builder_Extra_Laysn156 a c sep w
open Go.RowKit in
theorem Shelf.strings_Join  (bk o c : Nat) (xs : List ByteArray) (sep : ByteArray) (w : World) (hcells : ∀ (j : Nat) x, xs[j]? = some x → w.cell? ⟨bk, o + j, none⟩ = some (.string x)) (hbk : bk < w.heap.size) (hN : xs.length ≤ 140737488355328) (hcap : xs.length ≤ c) (hlen : (Lib.join (xs.map (·.data.toList)) sep.data.toList).length ≤ 140737488355328) :
    Calls Tryz.prog 56 #[.slice (some ⟨bk, o, none⟩) xs.length c, .string sep] w fun e w' => e = .returned (.string ⟨(Lib.join (xs.map (·.data.toList)) sep.data.toList).toArray⟩) ∧ Below w.heap.size w w' := Any.strings_Join Shelf.Laysn156 Shelf.Builder_Extra_Laysn156 bk o c xs sep w hcells hbk hN hcap hlen
end Go.Proofs.YtjmpkbmgcbalkaaGreatDoor
/- dn.printed: a name's text. Conditions: the name is right, and reads as it lies. -/
namespace Go.Proofs.YtjmpkbmgcbalkaaGreatDoor.Dn
open Go.RowKit Go.Lib
set_option linter.unusedVariables false
theorem join_joinC (c : UInt8) : ∀ l : List (List UInt8), Lib.join l [c] = joinC c l
  | [] => rfl
  | [x] => Lib.join_one x [c]
  | x :: y :: t => by
    rw [joinC, ← join_joinC c (y :: t)]
    simp [Lib.join, List.intercalate, List.intersperse]
theorem joinC_len (c : UInt8) (M : Nat) : ∀ l : List (List UInt8), (∀ x ∈ l, x.length ≤ M) → (joinC c l).length ≤ l.length * (M + 1)
  | [], _ => by simp [joinC]
  | [x], h => by have := h x (by simp); rw [joinC]; simp; omega
  | x :: y :: t, h => by
    have h1 := h x (by simp)
    have h2 := joinC_len c M (y :: t) (fun z hz => h z (by simp at hz ⊢; exact .inr hz))
    rw [joinC, List.length_append, List.length_cons]
    simp only [List.length_cons] at h2 ⊢
    rw [Nat.add_mul (t.length + 1) 1, Nat.one_mul]
    omega
theorem join_calls (v : Value) (xs : List ByteArray) (c : UInt8) (w : World) (av : Nat → Prop) (hv : VSlice 1 VStr w av [v] xs) (hn : xs.length ≤ 1000000) (hl : (joinC c (xs.map (·.data.toList))).length ≤ 1000000000) :
    Calls Tryz.prog 56 #[v, .string ⟨#[c]⟩] w fun e w' => e = .returned (.string ⟨(joinC c (xs.map (·.data.toList))).toArray⟩) ∧ Below w.heap.size w w' := by
  obtain ⟨A, k, rfl, hk, hx⟩ := hv.open
  by_cases h0 : xs = []
  · subst h0
    refine (Shelf.strings_Join_none A k ⟨#[c]⟩ w).mono ?_
    rintro e w' ⟨rfl, rfl⟩
    exact ⟨rfl, Below.refl _ _⟩
  · obtain ⟨b, o, rfl, _, hb, hc⟩ := hx h0
    have e1 : (⟨#[c]⟩ : ByteArray).data.toList = [c] := rfl
    refine (Shelf.strings_Join b o k xs ⟨#[c]⟩ w (fun j x hj => by
      obtain ⟨ws, e1, e2⟩ := hc j x hj
      have e1' : ws = [.string x] := e1
      subst e1'
      have := e2 0 _ rfl
      simpa using this) hb (by omega) hk (by rw [e1, join_joinC]; omega)).mono ?_
    rintro e w' ⟨rfl, hb⟩
    refine ⟨?_, hb⟩
    rw [e1, join_joinC]
theorem textsTy : RowTy Tryz.prog 52 9 1 := rowTy_of Tryz.underlying52 (by kernel_rfl) (by decide)
def mkB (l : List UInt8) : ByteArray := ⟨l.toArray⟩
theorem mkB_list (l : List UInt8) : (mkB l).data.toList = l := by simp [mkB]
theorem map_mkB {α : Type} (f : α → List UInt8) (l : List α) : (l.map fun a => mkB (f a)).map (·.data.toList) = l.map f := by
  rw [List.map_map]
  exact List.map_congr_left (fun a _ => mkB_list _)
theorem ava_text (a : Ava) : a.1 ++ ⟨#[61]⟩ ++ ⟨(Esc.outF (Esc.nameR a.2.size) 0 a.2.data.toList).toArray⟩ = mkB (avaL a) := by
  rw [← Txt.mk_list (a.1 ++ ⟨#[61]⟩ ++ ⟨(Esc.outF (Esc.nameR a.2.size) 0 a.2.data.toList).toArray⟩)]
  unfold mkB
  congr 2
  simp [avaL]
end Go.Proofs.YtjmpkbmgcbalkaaGreatDoor.Dn
/- errors.As and errors.Is at an error type of the package Dn: a struct of one cell (Go's text of both is walked). No conditions beyond the shape of memory that each theorem names. -/
namespace Go.Proofs.YtjmpkbmgcbalkaaGreatDoor.AsDn
open Go.RowKit Go.Extern.Stop Go.Stop Go.Extern
theorem rlm (z : Sem Value) (f : TypeId → Addr → Nat → Nat → Sem Value) (v : Value) :
    ReflectliteValue.method z f #[v] = (do match ← ReflectliteValue.parts v with | none => z | some (t, a, fl) => f t a fl (fl % 32)) := rfl
theorem rls (v x : Value) : ReflectliteValue.set #[v, x] = (do
    let (some (dst, a, fl), some (src, b, _)) := (← ReflectliteValue.parts v, ← ReflectliteValue.parts x)
      | unsupported (.noEntry "extern/(internal/reflectlite.Value).Set.zeroValue")
    if fl / ReflectliteValue.flagAddr % 2 == 0 then unsupported (.noEntry "extern/(internal/reflectlite.Value).Set.unaddressable")
    let val ← loadVar src b
    if ← Rtype.directlyAssignable dst src then storeVar dst a val
    else if ← Rtype.implements dst src then
      if (← Rtype.kind src) == 20 then
        match val with
        | .nilIface => unsupported (.noEntry "extern/reflectlite: a nil value of one interface type handed on as a value of another")
        | _ => storeVar dst a val
      else storeVar dst a (.iface src val)
    else panicString ("reflectlite.Set: value of type " ++ (← Rtype.spelt src) ++ " is not assignable to type " ++ (← Rtype.spelt dst))
    pure (.tuple #[])) := rfl
theorem below_setRow {B g : Nat} {w w' : World} (h : Below B w w') (hB : B ≤ g) (cs : Array Value) : Below B w (w'.setRow g cs) :=
  h.trans ⟨rfl, rfl, rfl, by simp [World.setRow], fun k hk => by simp only [World.setRow, Array.getElem?_modify]; rw [if_neg (by omega)]⟩
theorem valueOfP (t : Addr) (w : World) : (ReflectliteValue.unpack (.iface 72 (.pointer (some t)))).run Tryz.prog w
    = .ok (.agg #[.pointer (some ⟨8, 72, none⟩), .pointer (some ⟨w.heap.size, 0, none⟩), .int .u64 150]) (w.alloc (.cells #[.pointer (some t)] 72)) := by kernel_rfl
theorem typeP (a : Addr) (w : World) : (ReflectliteValue.methodAny (ReflectliteValue.valueError "reflectlite.Value.Type" 0) (fun t _ _ _ => ReflectliteType.toType t) #[.agg #[.pointer (some ⟨8, 72, none⟩), .pointer (some a), .int .u64 150]]).run Tryz.prog w
    = .ok (.iface 126 (.agg #[.pointer (some ⟨8, 72, none⟩)])) w := by kernel_rfl
theorem elemP (w : World) : (ReflectliteType.method ReflectliteType.elem #[.agg #[.pointer (some ⟨8, 72, none⟩)]]).run Tryz.prog w = .ok (.iface 126 (.agg #[.pointer (some ⟨8, 46, none⟩)])) w := by kernel_rfl
theorem kindP (w : World) : ((ReflectliteType.abiMethod fun t => (fun a : Nat => Value.int IntKind.u8 (a : Int)) <$> Rtype.kind t) #[.pointer (some ⟨8, 72, none⟩)]).run Tryz.prog w = .ok (.int .u8 22) w := by kernel_rfl
theorem kindW (w : World) : ((ReflectliteType.abiMethod fun t => (fun a : Nat => Value.int IntKind.u8 (a : Int)) <$> Rtype.kind t) #[.pointer (some ⟨8, 46, none⟩)]).run Tryz.prog w = .ok (.int .u8 25) w := by kernel_rfl
theorem implementsW (w : World) : (ReflectliteType.relation "Implements" ReflectliteType.implements_ #[.agg #[.pointer (some ⟨8, 46, none⟩)], .iface 126 (.agg #[.pointer (some ⟨8, 49, none⟩)])]).run Tryz.prog w = .ok (.bool true) w := by kernel_rfl
theorem typeOfW (v : Value) (w : World) : (ReflectliteType.typeOf #[.iface 46 v]).run Tryz.prog w = .ok (.iface 126 (.agg #[.pointer (some ⟨8, 46, none⟩)])) w := by kernel_rfl
theorem assignW (w : World) : (ReflectliteType.relation "AssignableTo" ReflectliteType.assignableTo #[.agg #[.pointer (some ⟨8, 46, none⟩)], .iface 126 (.agg #[.pointer (some ⟨8, 46, none⟩)])]).run Tryz.prog w = .ok (.bool true) w := by kernel_rfl
theorem valueOfW (x : Value) (w : World) : (ReflectliteValue.unpack (.iface 46 (.agg #[x]))).run Tryz.prog w
    = .ok (.agg #[.pointer (some ⟨8, 46, none⟩), .pointer (some ⟨w.heap.size, 0, none⟩), .int .u64 153]) (w.alloc (.cells #[x] 46)) := by kernel_rfl
theorem methodKind (h : Value) (w : World) : (Go.method 319 126 (.agg #[h]) "Kind").run Tryz.prog w = .ok (149, h) w := by kernel_rfl
theorem methodElem (h : Value) (w : World) : (Go.method 319 126 (.agg #[h]) "Elem").run Tryz.prog w = .ok (161, .agg #[h]) w := by kernel_rfl
theorem methodImplements (h : Value) (w : World) : (Go.method 319 126 (.agg #[h]) "Implements").run Tryz.prog w = .ok (162, .agg #[h]) w := by kernel_rfl
theorem methodAssignableTo (h : Value) (w : World) : (Go.method 319 126 (.agg #[h]) "AssignableTo").run Tryz.prog w = .ok (159, .agg #[h]) w := by kernel_rfl
theorem parts (a : Addr) (w : World) : (ReflectliteValue.parts (.agg #[.pointer (some ⟨8, 72, none⟩), .pointer (some a), .int .u64 150])).run Tryz.prog w = .ok (some (72, a, 150)) w := by kernel_rfl
theorem partsWa (a : Addr) (w : World) : (ReflectliteValue.parts (.agg #[.pointer (some ⟨8, 46, none⟩), .pointer (some a), .int .u64 409])).run Tryz.prog w = .ok (some (46, a, 409)) w := by kernel_rfl
theorem partsW (a : Addr) (w : World) : (ReflectliteValue.parts (.agg #[.pointer (some ⟨8, 46, none⟩), .pointer (some a), .int .u64 153])).run Tryz.prog w = .ok (some (46, a, 153)) w := by kernel_rfl
theorem elemOf (w : World) : (Rtype.elem? 72).run Tryz.prog w = .ok (some 46) w := by kernel_rfl
theorem mkW (p : Addr) (w : World) : (ReflectliteValue.mk 46 p ReflectliteValue.flagAddr).run Tryz.prog w = .ok (.agg #[.pointer (some ⟨8, 46, none⟩), .pointer (some p), .int .u64 409]) w := by kernel_rfl
theorem isNil (a p : Addr) (W : World) (ha : W.cell? a = some (.pointer (some p))) :
    (ReflectliteValue.method (ReflectliteValue.valueError "reflectlite.Value.IsNil" 0) ReflectliteValue.isNil #[.agg #[.pointer (some ⟨8, 72, none⟩), .pointer (some a), .int .u64 150]]).run Tryz.prog W = .ok (.bool false) W := by
  rw [rlm]
  simp only [Sem.run_bind, parts, Result.andThen]
  simp [ReflectliteValue.isNil, loadVar, isAgg, underlying, Tryz.underlying72, ha, Result.andThen]
theorem elemV (a p : Addr) (W : World) (ha : W.cell? a = some (.pointer (some p))) :
    (ReflectliteValue.method (ReflectliteValue.valueError "reflectlite.Value.Elem" 0) ReflectliteValue.elem #[.agg #[.pointer (some ⟨8, 72, none⟩), .pointer (some a), .int .u64 150]]).run Tryz.prog W
      = .ok (.agg #[.pointer (some ⟨8, 46, none⟩), .pointer (some p), .int .u64 409]) W := by
  rw [rlm]
  simp only [Sem.run_bind, parts, Result.andThen]
  simp [ReflectliteValue.elem, loadVar, isAgg, underlying, Tryz.underlying72, ha, Result.andThen, elemOf, mkW]
theorem direct (w : World) : (Rtype.directlyAssignable 46 46).run Tryz.prog w = .ok true w := by kernel_rfl
theorem setW (g b : Nat) (old0 x : Value) (fr : Nat × Nat) (W : World) (hx : x.oneCell' = true) (hb : W.heap[b]? = some (.cells #[x] 46 fr)) (ht : W.heap[g]? = some (.cells #[old0] 46 (0, 0))) :
    (ReflectliteValue.set #[.agg #[.pointer (some ⟨8, 46, none⟩), .pointer (some ⟨g, 0, none⟩), .int .u64 409], .agg #[.pointer (some ⟨8, 46, none⟩), .pointer (some ⟨b, 0, none⟩), .int .u64 153]]).run Tryz.prog W
      = .ok (.tuple #[]) (W.setRow g #[x]) := by
  have hl := run_loadVar_row (P := Tryz.prog) W b 46 46 #[x] fr _ hb Tryz.underlying46 rfl (by kernel_rfl)
  have hs := run_storeVar_row (P := Tryz.prog) W g 46 46 #[old0] #[x] ht (by kernel_rfl) rfl (by simp [hx])
  rw [rls]
  simp only [Sem.run_bind, partsWa, partsW, Result.andThen]
  simp [ReflectliteValue.flagAddr, hl, hs, Result.andThen, direct]
set_option maxHeartbeats 4000000 in
set_option maxRecDepth 100000 in
theorem as_hit (g : Nat) (old0 x : Value) (w : World) (hx : x.oneCell' = true) (hg : w.cell? ⟨1, 0, none⟩ = some (.iface 126 (.agg #[.pointer (some ⟨8, 49, none⟩)])))
    (ht : w.heap[g]? = some (.cells #[old0] 46 (0, 0))) :
    Calls Tryz.prog 55 #[.iface 46 (.agg #[x]), .iface 72 (.pointer (some ⟨g, 0, none⟩))] w fun ev w' => ev = .returned (.bool true) ∧ Below g w w' ∧ w'.heap[g]? = some (.cells #[x] 46 (0, 0)) := by
  have h6 := @run_callFunc_extern Tryz.prog 76 _ (fun args => ReflectliteValue.unpack (args.getD 0 (.tuple #[]))) Tryz.func76 (by kernel_rfl) (by kernel_rfl) (by kernel_rfl) (by kernel_rfl)
  have h7 := @run_callFunc_extern Tryz.prog 77 _ (ReflectliteValue.methodAny (ReflectliteValue.valueError "reflectlite.Value.Type" 0) (fun t _ _ _ => ReflectliteType.toType t)) Tryz.func77 (by kernel_rfl) (by kernel_rfl) (by kernel_rfl) (by kernel_rfl)
  have h8 := @run_callFunc_extern Tryz.prog 78 _ (ReflectliteValue.method (ReflectliteValue.valueError "reflectlite.Value.IsNil" 0) ReflectliteValue.isNil) Tryz.func78 (by kernel_rfl) (by kernel_rfl) (by kernel_rfl) (by kernel_rfl)
  have h27 := @run_callFunc_extern Tryz.prog 149 _ (ReflectliteType.abiMethod fun t => do pure (.int .u8 (← Rtype.kind t))) Tryz.func149 (by kernel_rfl) (by kernel_rfl) (by kernel_rfl) (by kernel_rfl)
  have h37 := @run_callFunc_extern Tryz.prog 161 _ (ReflectliteType.method ReflectliteType.elem) Tryz.func161 (by kernel_rfl) (by kernel_rfl) (by kernel_rfl) (by kernel_rfl)
  have h38 := @run_callFunc_extern Tryz.prog 162 _ (ReflectliteType.relation "Implements" ReflectliteType.implements_) Tryz.func162 (by kernel_rfl) (by kernel_rfl) (by kernel_rfl) (by kernel_rfl)
  have h10 := @run_callFunc_extern Tryz.prog 74 _ ReflectliteType.typeOf Tryz.func74 (by kernel_rfl) (by kernel_rfl) (by kernel_rfl) (by kernel_rfl)
  have h35 := @run_callFunc_extern Tryz.prog 159 _ (ReflectliteType.relation "AssignableTo" ReflectliteType.assignableTo) Tryz.func159 (by kernel_rfl) (by kernel_rfl) (by kernel_rfl) (by kernel_rfl)
  have h11 := @run_callFunc_extern Tryz.prog 93 _ (ReflectliteValue.method (ReflectliteValue.valueError "reflectlite.Value.Elem" 0) ReflectliteValue.elem) Tryz.func93 (by kernel_rfl) (by kernel_rfl) (by kernel_rfl) (by kernel_rfl)
  have h12 := @run_callFunc_extern Tryz.prog 94 _ ReflectliteValue.set Tryz.func94 (by kernel_rfl) (by kernel_rfl) (by kernel_rfl) (by kernel_rfl)
  have tO := typeOfW
  have mA := methodAssignableTo
  have a25 := assignW
  have v25 := valueOfW
  have f6 := valueOfP
  have f7 := typeP
  have mK := methodKind
  have mE := methodElem
  have mI := methodImplements
  have k27 := kindP
  have k25 := kindW
  have e27 := elemP
  have i25 := implementsW
  have hlt : g < w.heap.size := by
    rcases Nat.lt_or_ge g w.heap.size with h | h
    · exact h
    · simp [Array.getElem?_eq_none h] at ht
  have hgg : 1 < w.heap.size := by
    rcases Nat.lt_or_ge 1 w.heap.size with h | h
    · exact h
    · simp [World.cell?, Array.getElem?_eq_none h] at hg
  have hg2 : ((w.alloc (.cells #[.pointer (some ⟨g, 0, none⟩)] 72)).alloc (.cells #[.pointer (some ⟨8, 72, none⟩), .pointer (some ⟨w.heap.size, 0, none⟩), .int .u64 150] 108)).cell? ⟨1, 0, none⟩ = some (.iface 126 (.agg #[.pointer (some ⟨8, 49, none⟩)])) := by
    rw [World.cell?_alloc_lt _ _ ⟨1, 0, none⟩ (by simp; omega), World.cell?_alloc_lt _ _ ⟨1, 0, none⟩ hgg]; exact hg
  have n8 := isNil ⟨w.heap.size, 0, none⟩ ⟨g, 0, none⟩ ((w.alloc (.cells #[.pointer (some ⟨g, 0, none⟩)] 72)).alloc (.cells #[.pointer (some ⟨8, 72, none⟩), .pointer (some ⟨w.heap.size, 0, none⟩), .int .u64 150] 108)) (by simp)
  have el := elemV ⟨w.heap.size, 0, none⟩ ⟨g, 0, none⟩ (((w.alloc (.cells #[.pointer (some ⟨g, 0, none⟩)] 72)).alloc (.cells #[.pointer (some ⟨8, 72, none⟩), .pointer (some ⟨w.heap.size, 0, none⟩), .int .u64 150] 108)).alloc (.cells #[.pointer (some ⟨8, 72, none⟩), .pointer (some ⟨w.heap.size, 0, none⟩), .int .u64 150] 108)) (by rw [World.cell?_alloc_lt _ _ ⟨w.heap.size, 0, none⟩ (by simp; omega)]; simp)
  have st := setW g (w.heap.size + 1 + 1 + 1) old0 x (0, 0) ((((w.alloc (.cells #[.pointer (some ⟨g, 0, none⟩)] 72)).alloc (.cells #[.pointer (some ⟨8, 72, none⟩), .pointer (some ⟨w.heap.size, 0, none⟩), .int .u64 150] 108)).alloc (.cells #[.pointer (some ⟨8, 72, none⟩), .pointer (some ⟨w.heap.size, 0, none⟩), .int .u64 150] 108)).alloc (.cells #[x] 46)) hx (by have := World.alloc_heap_new (((w.alloc (.cells #[.pointer (some ⟨g, 0, none⟩)] 72)).alloc (.cells #[.pointer (some ⟨8, 72, none⟩), .pointer (some ⟨w.heap.size, 0, none⟩), .int .u64 150] 108)).alloc (.cells #[.pointer (some ⟨8, 72, none⟩), .pointer (some ⟨w.heap.size, 0, none⟩), .int .u64 150] 108)) (.cells #[x] 46); simpa using this) (by rw [Below.heap_alloc _ _ _ (by simp; omega), Below.heap_alloc _ _ _ (by simp; omega), Below.heap_alloc _ _ _ (by simp; omega), Below.heap_alloc _ _ _ hlt]; exact ht)
  go_enter Tryz.func55, Tryz.ntmps55
  go_wp2
  refine wp_loop_rounds 1 ?_
  rw [rounds_succ]
  go_wp2
  go_ret
  refine ⟨rfl, ?_, ?_⟩
  · exact below_setRow ((((((Below.refl g w).alloc (by omega) _).alloc (by simp; omega) _).alloc (by simp; omega) _).alloc (by simp; omega) _)) (Nat.le_refl _) _
  · refine setRow_heap _ g #[old0] _ _ _ ?_
    rw [Below.heap_alloc _ _ _ (by simp; omega), Below.heap_alloc _ _ _ (by simp; omega), Below.heap_alloc _ _ _ (by simp; omega), Below.heap_alloc _ _ _ hlt]; exact ht
set_option maxRecDepth 100000 in
theorem as_nil (g : Nat) (old0 : Value) (w : World) (ht : w.heap[g]? = some (.cells #[old0] 46 (0, 0))) :
    Calls Tryz.prog 55 #[.nilIface, .iface 72 (.pointer (some ⟨g, 0, none⟩))] w fun ev w' => ev = .returned (.bool false) ∧ Below w.heap.size w w' := by
  go_enter Tryz.func55, Tryz.ntmps55
  go_wp2
  go_ret
  exact ⟨rfl, Below.refl _ _⟩
end Go.Proofs.YtjmpkbmgcbalkaaGreatDoor.AsDn
