/- Several texts, one behind the other. esc: the signs that a value's text has, and whether a byte is one of them. No conditions. esc, code, plain: digits of two, values read. No program. Which texts are types of names: plain functions. No program. plain: texts of ASCII are right; two digits are a byte. filt, plain: a value as it is printed in a filter, and read again. No program. plain: texts cut at a sign; the bytes of a type; all or none. filt, plain: filters, which are right, their texts, and filters of texts; what is printed, read, is that. No program. filt, plain: a right filter's text, read, is that filter. No program. filt, plain: the same filters, all filters in one, their names, how deep they stand. No program. -/
import Derived.Test.YtiafggoaedifdaaGreatDoorM15
import Derived.Test.YtiafggoaedifdaaGreatDoorM13
import Derived.Lib.Split
import Derived.Lib.SplitLaws
import Derived.Lib.IndexBytes
import Derived.Lib.IndexMore
/- esc: the signs that a value's text has, and whether a byte is one of them. No conditions. -/
namespace Go.Proofs.YtiafggoaedifdaaGreatDoor.Esc
open Go.RowKit Go.Lib
set_option linter.unusedVariables false
def first2 : List UInt8 := [32, 35]
def signs7 : List UInt8 := [34, 43, 44, 59, 60, 62, 92]
theorem one2 (b : UInt8) (W : World) (n : Nat) (hn : n = W.heap.size) : Calls Tryz.prog 51 #[.int .u8 b.toNat, .slice (some ⟨n, 0, none⟩) 2 2] (W.alloc (.cells #[.int .u8 32, .int .u8 35] 5)) fun e w' => e = .returned (.bool (first2.contains b)) ∧ (W.alloc (.cells #[.int .u8 32, .int .u8 35] 5)) = w' :=
  hn ▸ one_calls b _ first2 _ (lit_bytes W (fun _ => True) first2 trivial 2 2 rfl (by decide)) (by decide)
theorem one7 (b : UInt8) (W : World) (n : Nat) (hn : n = W.heap.size) : Calls Tryz.prog 51 #[.int .u8 b.toNat, .slice (some ⟨n, 0, none⟩) 7 7] (W.alloc (.cells #[.int .u8 34, .int .u8 43, .int .u8 44, .int .u8 59, .int .u8 60, .int .u8 62, .int .u8 92] 5)) fun e w' => e = .returned (.bool (signs7.contains b)) ∧ (W.alloc (.cells #[.int .u8 34, .int .u8 43, .int .u8 44, .int .u8 59, .int .u8 60, .int .u8 62, .int .u8 92] 5)) = w' :=
  hn ▸ one_calls b _ signs7 _ (lit_bytes W (fun _ => True) signs7 trivial 7 7 rfl (by decide)) (by decide)
/-- is a byte printed behind a sign, by its digits? -/
def nameR (n : Nat) (k : Nat) (b : UInt8) : Bool × Bool := ((k == 0 && first2.contains b) || (k + 1 == n && b == 32) || signs7.contains b, !plainB b)
end Go.Proofs.YtiafggoaedifdaaGreatDoor.Esc
/- esc, code, plain: digits of two, values read. No program. -/
namespace Go.Proofs.YtiafggoaedifdaaGreatDoor.Code
open Go.RowKit
set_option linter.unusedVariables false
/-- what a digit is -/
def hexVal (c : UInt8) : Option Nat := if 48 ≤ c.toNat ∧ c.toNat ≤ 57 then some (c.toNat - 48) else if 97 ≤ c.toNat ∧ c.toNat ≤ 102 then some (c.toNat - 87) else if 65 ≤ c.toNat ∧ c.toNat ≤ 70 then some (c.toNat - 55) else none
theorem hexVal_lt {c : UInt8} {n : Nat} (h : hexVal c = some n) : n < 16 ∧ c.toNat < 128 := by
  unfold hexVal at h
  split at h
  · cases h; omega
  · split at h
    · cases h; omega
    · split at h
      · cases h; omega
      · cases h
/-- the text of at most two digits -/
def unhex2 : List UInt8 → Option (List UInt8)
  | [] => some []
  | [a, b] => match hexVal a, hexVal b with
    | some x, some y => some [UInt8.ofNat (16 * x + y)]
    | _, _ => none
  | _ => none
end Go.Proofs.YtiafggoaedifdaaGreatDoor.Code
namespace Go.Proofs.YtiafggoaedifdaaGreatDoor.Esc
open Go.RowKit
set_option linter.unusedVariables false
theorem extract_size (s : ByteArray) (i j : Nat) (hij : i ≤ j) (hj : j ≤ s.size) : (s.extract i j).size = j - i := by
  rw [ByteArray.size_extract]; omega
/-- two digits ahead of a place -/
def two (s : ByteArray) (at_ : Nat) : List UInt8 := (s.data.toList.drop at_).take 2
/-- the byte of the two digits at a place -/
def digitAt (s : ByteArray) (at_ : Nat) : Option UInt8 := match Code.unhex2 (two s at_) with
  | some [z] => some z
  | _ => none
theorem unhex2_cases (l : List UInt8) : Code.unhex2 l = none ∨ Code.unhex2 l = some [] ∨ ∃ z, Code.unhex2 l = some [z] := by
  match l with
  | [] => exact .inr (.inl rfl)
  | [_] => exact .inl rfl
  | [a, b] =>
    simp only [Code.unhex2]
    split
    · exact .inr (.inr ⟨_, rfl⟩)
    · exact .inl rfl
  | _ :: _ :: _ :: _ => exact .inl rfl
def signs10 : List UInt8 := [32, 35, 61, 34, 43, 44, 59, 60, 62, 92]
/-- what stands behind a sign: a byte, and the place behind it -/
def signAt (nm : Bool) (s : ByteArray) (a : Nat) : Option (UInt8 × Nat) :=
  if h : a < s.size then
    if nm && signs10.contains s[a] then some (s[a], a + 1) else (digitAt s a).map fun z => (z, a + 2)
  else (digitAt s a).map fun z => (z, a + 2)
def signs3 : List UInt8 := [42, 40, 41]
def signs6 : List UInt8 := [34, 43, 44, 59, 60, 62]
/-- may a byte not stand at a place? -/
def barB (nm : Bool) (n k : Nat) (b : UInt8) : Bool := if nm then (k == 0 && first2.contains b) || (k + 1 == n && b == 32) || signs6.contains b else signs3.contains b
/-- what is read from a place on, behind what has been read -/
def readR (nm : Bool) (s : ByteArray) : Nat → Nat → List UInt8 → Option (List UInt8)
  | 0, _, l => some l
  | f + 1, k, l => if h : k < s.size then
      (if s[k] == 92 then (match signAt nm s (k + 1) with
        | some (z, a) => readR nm s f a (l ++ [z])
        | none => none)
      else if barB nm s.size k s[k] then none else readR nm s f (k + 1) (l ++ [s[k]]))
    else some l
/-- what a value's text says -/
def readL (nm : Bool) (s : ByteArray) : Option (List UInt8) := if !(Utf.utfB s) || s.data.toList.contains 0 then none else readR nm s s.size 0 []
end Go.Proofs.YtiafggoaedifdaaGreatDoor.Esc
/- Which texts are types of names: plain functions. No program. -/
namespace Go.Proofs.YtiafggoaedifdaaGreatDoor.Txt
open Go Go.Lib
/-- a text cut at each byte c -/
def splitOn (c : UInt8) : List UInt8 → List (List UInt8)
  | [] => [[]]
  | x :: t => if x = c then [] :: splitOn c t else match splitOn c t with
    | [] => [[x]]
    | h :: r => (x :: h) :: r
theorem splitOn_ne (c : UInt8) (l : List UInt8) : splitOn c l ≠ [] := by
  cases l with
  | nil => simp [splitOn]
  | cons x t =>
    unfold splitOn
    split
    · simp
    · split <;> simp
theorem index_cons (c x : UInt8) (t : List UInt8) : index (x :: t) [c] = if x = c then 0 else if index t [c] = -1 then -1 else index t [c] + 1 := by
  rw [index_one, index_one]
  show (if (x == c) = true then _ else _) = _
  simp only [beq_iff_eq]
theorem splitK_one (c : UInt8) : ∀ l : List UInt8, splitK [c] 0 (l.count c) l = splitOn c l
  | [] => rfl
  | x :: t => by
    have ih := splitK_one c t
    have hg := index_ge t [c]
    by_cases hx : x = c
    · subst hx
      rw [List.count_cons_self]
      unfold splitOn splitK
      rw [index_cons, if_pos rfl, if_pos rfl]
      simpa using ih
    · rw [List.count_cons_of_ne (by simpa using hx)]
      unfold splitOn
      rw [if_neg hx]
      rw [← ih]
      cases hc : t.count c with
      | zero => rfl
      | succ k =>
        unfold splitK
        rw [index_cons, if_neg hx]
        by_cases hi : index t [c] = -1
        · simp [hi]
        · have h1 : ¬ (index t [c] + 1 == -1) = true := fun e => by have := beq_iff_eq.1 e; omega
          have h2 : ¬ (index t [c] == -1) = true := fun e => hi (beq_iff_eq.1 e)
          rw [if_neg hi, if_neg h1, if_neg h2]
          have e1 : (index t [c] + 1).toNat = (index t [c]).toNat + 1 := by omega
          simp only [e1, List.length_singleton, Nat.add_zero, List.take_succ_cons]
          rw [show (index t [c]).toNat + 1 + 1 = ((index t [c]).toNat + 1) + 1 from rfl, List.drop_succ_cons]
theorem split_one (s : ByteArray) (c : UInt8) : (splitB ⟨#[c]⟩ 0 (countB s ⟨#[c]⟩) s).map (·.data.toList) = splitOn c s.data.toList ∧ (splitB ⟨#[c]⟩ 0 (countB s ⟨#[c]⟩) s).length = countB s ⟨#[c]⟩ + 1 := by
  refine ⟨?_, splitB_all ⟨#[c]⟩ (Nat.le_refl 1) 0 _ s rfl⟩
  rw [splitB_data]
  have : countB s ⟨#[c]⟩ = s.data.toList.count c := count_one c s.data.toList
  rw [this]
  exact splitK_one c _
theorem index_mem (c : UInt8) : ∀ l : List UInt8, decide (0 ≤ indexByte l c) = l.contains c
  | [] => rfl
  | x :: t => by
    have ih := index_mem c t
    have hg := indexByte_ge t c
    unfold indexByte
    by_cases hx : x = c
    · subst hx; simp
    · rw [List.contains_cons, ← ih]
      have hx2 : (c == x) = false := by simp [Ne.symm hx]
      have hx3 : (x == c) = false := by simp [hx]
      rw [hx2, hx3]
      by_cases h1 : indexByte t c = -1
      · simp [h1]
      · have : (indexByte t c == -1) = false := by simp [h1]
        rw [this]
        simp only [Bool.false_eq_true, if_false, Bool.false_or, decide_eq_decide]
        omega
end Go.Proofs.YtiafggoaedifdaaGreatDoor.Txt
namespace Go.Proofs.YtiafggoaedifdaaGreatDoor.Dn
set_option linter.unusedVariables false
def letter (c : UInt8) : Bool := (decide (97 ≤ c.toNat) && decide (c.toNat ≤ 122)) || (decide (65 ≤ c.toNat) && decide (c.toNat ≤ 90))
def digit (c : UInt8) : Bool := decide (48 ≤ c.toNat) && decide (c.toNat ≤ 57)
def keyRest (c : UInt8) : Bool := letter c || digit c || decide (c.toNat = 45)
def keyB : List UInt8 → Bool
  | [] => false
  | c :: t => letter c && t.all keyRest
/-- digits, without noughts ahead -/
def numB (l : List UInt8) : Bool := !l.isEmpty && (l.all digit && (decide (l = [48]) || decide (l.head? ≠ some 48)))
def typeB (l : List UInt8) : Bool := decide (l.length ≤ 20) && (keyB l || (l.contains 46 && (Txt.splitOn 46 l).all numB))
theorem keyB_snoc (l : List UInt8) (h : l ≠ []) (c : UInt8) : keyB (l ++ [c]) = (keyB l && keyRest c) := by
  cases l with
  | nil => exact absurd rfl h
  | cons x t => simp [keyB, Bool.and_assoc]
theorem keyB_false (l r : List UInt8) (h : l ≠ []) (hk : keyB l = false) : keyB (l ++ r) = false := by
  cases l with
  | nil => exact absurd rfl h
  | cons x t =>
    simp only [keyB, Bool.and_eq_false_iff, List.cons_append, List.all_append] at hk ⊢
    rcases hk with h | h
    · exact .inl h
    · exact .inr (.inl h)
end Go.Proofs.YtiafggoaedifdaaGreatDoor.Dn
/- plain: texts of ASCII are right; two digits are a byte. -/
namespace Go.Proofs.YtiafggoaedifdaaGreatDoor.Dn
open Go.Lib
set_option linter.unusedVariables false
theorem utfR_ascii (s : ByteArray) (h : ∀ b ∈ s.data.toList, b.toNat < 128) : ∀ f pos, Utf.utfR s f pos = true
  | 0, _ => rfl
  | f + 1, pos => by
    rw [Utf.utfR]
    by_cases hp : pos < s.size
    · have hb : s[pos].toNat < 128 := h _ (by
        have : s.data.toList[pos]? = some s[pos] := by
          rw [Array.getElem?_toList]
          exact Array.getElem?_eq_getElem hp
        exact List.mem_of_getElem? this)
      rw [if_pos hp, decode_ascii s pos hp hb]
      have hn : (s[pos].toNat == 65533) = false := by rw [beq_eq_false_iff_ne]; omega
      simp only [hn, Bool.false_and, Bool.false_eq_true, if_false]
      exact utfR_ascii s h f _
    · rw [if_neg hp]
theorem utf_ascii (s : ByteArray) (h : ∀ b ∈ s.data.toList, b.toNat < 128) : Utf.utfB s = true := utfR_ascii s h _ _
theorem hex_plain : ∀ m : Fin 16, Esc.plainB (Code.hexD m.1) = true := by decide
set_option maxRecDepth 100000 in
theorem unhex_hex : ∀ b : UInt8, Code.unhex2 (Code.hexB b) = some [b] := by
  have all : ∀ m : Fin 256, Code.unhex2 (Code.hexB (UInt8.ofNat m.1)) = some [UInt8.ofNat m.1] := by decide
  intro b
  have := all ⟨b.toNat, b.toNat_lt⟩
  simpa using this
theorem at_drop (s : ByteArray) (p : Nat) (b : UInt8) (t : List UInt8) (h : s.data.toList.drop p = b :: t) : ∃ hp : p < s.size, s[p] = b ∧ s.data.toList.drop (p + 1) = t := by
  have hp : p < s.size := by
    rcases Nat.lt_or_ge p s.size with h1 | h1
    · exact h1
    · rw [List.drop_eq_nil_of_le (by rw [Txt.size_list]; omega)] at h; cases h
  rw [Txt.drop_cons s p hp] at h
  injection h with h1 h2
  exact ⟨hp, h1, h2⟩
end Go.Proofs.YtiafggoaedifdaaGreatDoor.Dn
/- filt, plain: a value as it is printed in a filter, and read again. No program. -/
namespace Go.Proofs.YtiafggoaedifdaaGreatDoor.Fl
open Go.Lib
set_option linter.unusedVariables false
/-- how a byte stands in a filter's text -/
def filR (_ : Nat) (b : UInt8) : Bool × Bool := (false, !Esc.plainB b || ([92, 42, 40, 41] : List UInt8).contains b)
def escB (b : UInt8) : List UInt8 := if (filR 0 b).2 then 92 :: Code.hexB b else [b]
def escF (v : List UInt8) : List UInt8 := v.flatMap escB
theorem out_flat : ∀ (v : List UInt8) (k : Nat), Esc.outF filR k v = escF v
  | [], _ => rfl
  | b :: t, k => by
    rw [Esc.outF, out_flat t (k + 1)]
    show _ = escB b ++ escF t
    congr 1
    unfold Esc.outB escB
    have : filR k b = filR 0 b := rfl
    rw [this]
    have h1 : (filR 0 b).1 = false := rfl
    cases h : (filR 0 b).2 <;> simp [h1]
/-- bytes that are printed by their digits, or as they are -/
structure Prints (g : UInt8 → List UInt8) : Prop where
  way : ∀ b, g b = 92 :: Code.hexB b ∨ (g b = [b] ∧ b ≠ 92 ∧ Esc.signs3.contains b = false ∧ Esc.plainB b = true)
theorem Prints.esc : Prints escB := ⟨fun b => by
  unfold escB
  cases h : (filR 0 b).2
  · refine .inr ⟨rfl, ?_⟩
    unfold filR at h
    rw [Bool.or_eq_false_iff, Bool.not_eq_false'] at h
    obtain ⟨h1, h2⟩ := h
    simp at h2
    refine ⟨h2.1, ?_, h1⟩
    unfold Esc.signs3
    simp [h2.2]
  · exact .inl rfl⟩
theorem Prints.hex : Prints (fun b => 92 :: Code.hexB b) := ⟨fun b => .inl rfl⟩
theorem drop_two (s : ByteArray) (p : Nat) (x y : UInt8) (t : List UInt8) (h : s.data.toList.drop p = x :: y :: t) : Esc.two s p = [x, y] ∧ p + 2 ≤ s.size ∧ s.data.toList.drop (p + 2) = t := by
  obtain ⟨h1, h2, h3⟩ := Dn.at_drop s p x _ h
  obtain ⟨h4, h5, h6⟩ := Dn.at_drop s (p + 1) y _ h3
  refine ⟨?_, by omega, h6⟩
  unfold Esc.two
  rw [h]; rfl
theorem flat_ge {g : UInt8 → List UInt8} (hg : Prints g) : ∀ v : List UInt8, v.length ≤ (v.flatMap g).length
  | [] => Nat.le_refl _
  | b :: t => by
    have := flat_ge hg t
    rw [List.flatMap_cons, List.length_append, List.length_cons]
    rcases hg.way b with h | ⟨h, _⟩
    · rw [h, List.length_cons]; omega
    · rw [h, List.length_singleton]; omega
theorem read_flat {g : UInt8 → List UInt8} (hg : Prints g) (s : ByteArray) : ∀ (v2 v1 : List UInt8) (p f : Nat), v2.length ≤ f → s.data.toList.drop p = v2.flatMap g → Esc.readR false s f p v1 = some (v1 ++ v2)
  | [], v1, p, f, _, h => by
    have hp : ¬ p < s.size := by
      intro hp
      rw [Txt.drop_cons s p hp] at h
      cases h
    cases f with
    | zero => rw [Esc.readR]; simp
    | succ f => rw [Esc.readR, dif_neg hp]; simp
  | b :: t, v1, p, 0, hf, _ => by simp at hf
  | b :: t, v1, p, f + 1, hf, h => by
    have hf' : t.length ≤ f := by simpa using hf
    rw [List.flatMap_cons] at h
    rcases hg.way b with e | ⟨e, h92, h3, _⟩
    · rw [e] at h
      obtain ⟨hp, h1, h2⟩ := Dn.at_drop s p 92 _ h
      obtain ⟨h4, h5, h6⟩ := drop_two s (p + 1) _ _ _ h2
      have hd : Esc.digitAt s (p + 1) = some b := by
        unfold Esc.digitAt
        rw [h4]
        have := Dn.unhex_hex b
        show (match Code.unhex2 (Code.hexB b) with | some [z] => some z | _ => none) = _
        rw [this]
      rw [Esc.readR, dif_pos hp, h1]
      have hs : Esc.signAt false s (p + 1) = some (b, p + 3) := by
        unfold Esc.signAt
        simp [hd]
      rw [hs]
      simp only [beq_self_eq_true, if_true]
      rw [read_flat hg s t (v1 ++ [b]) (p + 3) f hf' h6]
      simp
    · rw [e] at h
      obtain ⟨hp, h1, h2⟩ := Dn.at_drop s p b _ h
      have hb : Esc.barB false s.size p b = false := by unfold Esc.barB; rw [if_neg (by decide)]; exact h3
      have h9 : (b == 92) = false := by simpa using h92
      rw [Esc.readR, dif_pos hp, h1, h9, if_neg (by decide), hb, if_neg (by decide), read_flat hg s t (v1 ++ [b]) (p + 1) f hf' h2]
      simp
theorem flat_plain {g : UInt8 → List UInt8} (hg : Prints g) : ∀ v : List UInt8, ∀ b ∈ v.flatMap g, Esc.plainB b = true := fun v b hb => by
  obtain ⟨x, _, hx⟩ := List.mem_flatMap.1 hb
  rcases hg.way x with e | ⟨e, _, _, h⟩
  · rw [e] at hx
    have h1 := Dn.hex_plain ⟨x.toNat / 16, by have := x.toNat_lt; omega⟩
    have h2 := Dn.hex_plain ⟨x.toNat % 16, Nat.mod_lt _ (by decide)⟩
    dsimp only at h1 h2
    simp only [Code.hexB, List.mem_cons, List.not_mem_nil, or_false] at hx
    rcases hx with rfl | rfl | rfl
    · decide
    · exact h1
    · exact h2
  · rw [e, List.mem_singleton] at hx
    rw [hx]; exact h
/-- what is printed so, read, is the value -/
theorem read_back {g : UInt8 → List UInt8} (hg : Prints g) (v : List UInt8) : Esc.readL false ⟨(v.flatMap g).toArray⟩ = some v := by
  have hall : ∀ b ∈ v.flatMap g, 32 ≤ b.toNat ∧ b.toNat ≤ 126 := fun b hb => by simpa [Esc.plainB] using flat_plain hg v b hb
  have hu := Dn.utf_ascii ⟨(v.flatMap g).toArray⟩ (fun b hb => by have := (hall b hb).2; omega)
  have hz : (v.flatMap g).contains 0 = false := by
    cases h : (v.flatMap g).contains 0 with
    | false => rfl
    | true => have := (hall 0 (List.contains_iff_mem.1 h)).1; simp at this
  unfold Esc.readL
  rw [hu]
  show (if (!true || (v.flatMap g).contains 0) = true then none else _) = _
  rw [hz, if_neg (by decide)]
  exact read_flat hg _ v [] 0 _ (by rw [Txt.size_mk]; exact flat_ge hg v) rfl
/-- no sign that a filter's text has stands in it -/
theorem flat_signs {g : UInt8 → List UInt8} (hg : Prints g) (v : List UInt8) : ∀ b ∈ v.flatMap g, b ≠ 42 ∧ b ≠ 40 ∧ b ≠ 41 := fun b hb => by
  obtain ⟨x, _, hx⟩ := List.mem_flatMap.1 hb
  rcases hg.way x with e | ⟨e, _, h3, _⟩
  · have hd : ∀ m : Fin 16, Code.hexD m.1 ≠ 42 ∧ Code.hexD m.1 ≠ 40 ∧ Code.hexD m.1 ≠ 41 := by decide
    have h1 := hd ⟨x.toNat / 16, by have := x.toNat_lt; omega⟩
    have h2 := hd ⟨x.toNat % 16, Nat.mod_lt _ (by decide)⟩
    dsimp only at h1 h2
    rw [e] at hx
    simp only [Code.hexB, List.mem_cons, List.not_mem_nil, or_false] at hx
    rcases hx with rfl | rfl | rfl
    · decide
    · exact h1
    · exact h2
  · rw [e, List.mem_singleton] at hx
    subst hx
    unfold Esc.signs3 at h3
    simpa using h3
theorem hex_len (v : List UInt8) : (v.flatMap fun b => 92 :: Code.hexB b).length = 3 * v.length := by
  induction v with
  | nil => rfl
  | cons b t ih => rw [List.flatMap_cons, List.length_append, ih, List.length_cons]; simp [Code.hexB]; omega
theorem esc_len (v : List UInt8) : (escF v).length ≤ 3 * v.length := by
  induction v with
  | nil => exact Nat.le_refl _
  | cons b t ih =>
    show (escB b ++ escF t).length ≤ _
    have : (escB b).length ≤ 3 := by unfold escB; split <;> simp [Code.hexB]
    rw [List.length_append, List.length_cons]; omega
end Go.Proofs.YtiafggoaedifdaaGreatDoor.Fl
/- plain: texts cut at a sign; the bytes of a type; all or none. -/
namespace Go.Proofs.YtiafggoaedifdaaGreatDoor.Dn
open Go.Lib
set_option linter.unusedVariables false
theorem index_here (c : UInt8) (y : List UInt8) : ∀ x : List UInt8, c ∉ x → index (x ++ c :: y) [c] = (x.length : Int)
  | [], _ => by rw [List.nil_append, Txt.index_cons, if_pos rfl]; rfl
  | b :: t, h => by
    have h1 : b ≠ c := fun e => h (by simp [e])
    have h2 : c ∉ t := fun e => h (by simp [e])
    rw [List.cons_append, Txt.index_cons, if_neg h1, index_here c y t h2, if_neg (by omega), List.length_cons]
    omega
theorem cut_here (c : UInt8) (x y : List UInt8) (h : c ∉ x) : Lib.cut (x ++ c :: y) [c] = (x, y, true) := by
  unfold Lib.cut
  rw [index_here c y x h, if_pos (by omega)]
  have e : ((x.length : Int)).toNat = x.length := by omega
  rw [e, List.length_singleton, List.take_left' rfl]
  have : List.drop (x.length + 1) (x ++ c :: y) = y := by
    rw [List.drop_append, List.drop_eq_nil_of_le (by omega), show x.length + 1 - x.length = 1 by omega]; rfl
  rw [this]
/-- a byte of a type -/
def typeByte (b : UInt8) : Bool := letter b || digit b || decide (b.toNat = 45) || decide (b.toNat = 46)
theorem split_bytes (c : UInt8) (P : UInt8 → Bool) : ∀ l : List UInt8, (∀ z ∈ Txt.splitOn c l, z.all P = true) → ∀ b ∈ l, b = c ∨ P b = true
  | [], _, b, hb => by cases hb
  | x :: t, h, b, hb => by
    rw [Txt.splitOn] at h
    by_cases hx : x = c
    · rw [if_pos hx] at h
      rcases List.mem_cons.1 hb with rfl | hb
      · exact .inl hx
      · exact split_bytes c P t (fun z hz => h z (by simp [hz])) b hb
    · rw [if_neg hx] at h
      cases hs : Txt.splitOn c t with
      | nil => exact absurd hs (Txt.splitOn_ne c t)
      | cons z r =>
        rw [hs] at h
        have h1 := h (x :: z) (by simp)
        simp only [List.all_cons, Bool.and_eq_true] at h1
        rcases List.mem_cons.1 hb with rfl | hb
        · exact .inr h1.1
        · refine split_bytes c P t (fun q hq => ?_) b hb
          rw [hs] at hq
          rcases List.mem_cons.1 hq with rfl | hq
          · exact h1.2
          · exact h q (by simp [hq])
theorem type_bytes (l : List UInt8) (h : typeB l = true) : ∀ b ∈ l, typeByte b = true := by
  unfold typeB at h
  simp only [Bool.and_eq_true, Bool.or_eq_true] at h
  rcases h.2 with h1 | h1
  · intro b hb
    cases l with
    | nil => cases hb
    | cons c t =>
      simp only [keyB, Bool.and_eq_true] at h1
      rcases List.mem_cons.1 hb with rfl | hb
      · simp [typeByte, h1.1]
      · have := List.all_eq_true.1 h1.2 b hb
        simp only [keyRest, Bool.or_eq_true] at this
        simp only [typeByte, Bool.or_eq_true]
        exact .inl this
  · intro b hb
    have := split_bytes 46 digit l (fun z hz => by
      have := List.all_eq_true.1 h1.2 z hz
      unfold numB at this
      simp only [Bool.and_eq_true] at this
      exact this.2.1) b hb
    rcases this with rfl | h2
    · decide
    · simp [typeByte, h2]
theorem typeByte_ne (b : UInt8) (h : typeByte b = true) : b ≠ 92 ∧ b ≠ 61 ∧ b ≠ 44 ∧ b ≠ 43 := by
  refine ⟨?_, ?_, ?_, ?_⟩ <;> (rintro rfl; exact absurd h (by decide))
/-- all, or none -/
def allM {α β : Type} (f : α → Option β) : List α → Option (List β)
  | [] => some []
  | a :: t => match f a with
    | none => none
    | some b => (allM f t).map (b :: ·)
theorem allM_map {α β : Type} (f : α → Option β) (g : β → α) : ∀ l : List β, (∀ b ∈ l, f (g b) = some b) → allM f (l.map g) = some l
  | [], _ => rfl
  | b :: t, h => by
    rw [List.map_cons, allM, h b (by simp), allM_map f g t (fun x hx => h x (by simp [hx]))]
    rfl
end Go.Proofs.YtiafggoaedifdaaGreatDoor.Dn
/- filt, plain: filters, which are right, their texts, and filters of texts; what is printed, read, is that. No program. -/
namespace Go.Proofs.YtiafggoaedifdaaGreatDoor.Fl
open Go.Lib
set_option linter.unusedVariables false
inductive Flt where
  | mk (kind : Int) (name value : ByteArray) (any : List ByteArray) (final : ByteArray) (l : List Flt)
def Flt.kind : Flt → Int | .mk k _ _ _ _ _ => k
def Flt.name : Flt → ByteArray | .mk _ n _ _ _ _ => n
def Flt.value : Flt → ByteArray | .mk _ _ v _ _ _ => v
def Flt.any : Flt → List ByteArray | .mk _ _ _ a _ _ => a
def Flt.final : Flt → ByteArray | .mk _ _ _ _ f _ => f
def Flt.l : Flt → List Flt | .mk _ _ _ _ _ l => l
abbrev bl (s : ByteArray) : List UInt8 := s.data.toList
def optB (s : List UInt8) : Bool := !s.isEmpty && s.all Dn.keyRest
/-- an attribute's name -/
def nameB (s : List UInt8) : Bool := decide (s.length ≤ 30) && (match Txt.splitOn 59 s with
  | [] => false
  | t :: r => Dn.typeB t && r.all optB)
def bareB (v : ByteArray) (a : List ByteArray) (f : ByteArray) : Bool := decide (v.size = 0) && (a.isEmpty && decide (f.size = 0))
def shortB (s : ByteArray) : Bool := decide (s.size ≤ 60)
def namedB (n v : ByteArray) (a : List ByteArray) (f : ByteArray) (l : List Flt) : Bool := nameB (bl n) && (l.isEmpty && (shortB v && (shortB f && a.all shortB)))
/-- is a filter right, but for those in it? -/
def oneB : Flt → Bool
  | .mk k n v a f l =>
    if k = 0 ∨ k = 1 ∨ k = 2 then decide (n.size = 0) && (bareB v a f && (decide (1 ≤ l.length) && (decide (l.length ≤ 8) && decide (k = 2 → l.length ≤ 1))))
    else if k = 7 then namedB n v a f l && bareB v a f
    else if k = 4 then namedB n v a f l && (!bareB v a f && (decide (a.length ≤ 4) && a.all fun s => decide (s.size ≠ 0)))
    else if k = 3 ∨ k = 5 ∨ k = 6 ∨ k = 8 then namedB n v a f l && (a.isEmpty && decide (f.size = 0))
    else false
mutual
/-- right, and not too deep, where it stands so deep -/
def rightF : Nat → Flt → Bool
  | d, .mk k n v a f l => decide (d ≤ 6) && (oneB (.mk k n v a f l) && rightFs (d + 1) l)
def rightFs : Nat → List Flt → Bool
  | _, [] => true
  | d, x :: r => rightF d x && rightFs d r
end
def signB (k : Int) : List UInt8 := if k = 0 then [38] else if k = 1 then [124] else if k = 2 then [33] else if k = 3 then [61] else if k = 5 then [62, 61] else if k = 6 then [60, 61] else if k = 8 then [126, 61] else []
def midB (k : Int) (v : ByteArray) (a : List ByteArray) (f : ByteArray) : List UInt8 :=
  if k = 7 then [61, 42] else if k = 4 then 61 :: ((v :: a).flatMap fun s => escF (bl s) ++ [42]) ++ escF (bl f) else signB k ++ escF (bl v)
mutual
/-- a right filter's text -/
def prF : Flt → List UInt8
  | .mk k n v a f l => 40 :: (bl n ++ midB k v a f ++ prFs l ++ [41])
def prFs : List Flt → List UInt8
  | [] => []
  | x :: r => prF x ++ prFs r
end
/-- a text up to a byte, and behind it -/
def cutL (c : UInt8) : List UInt8 → Option (List UInt8 × List UInt8)
  | [] => none
  | x :: t => if x = c then some ([], t) else (cutL c t).map fun p => (x :: p.1, p.2)
def bt' (l : List UInt8) : ByteArray := ⟨l.toArray⟩
def readV (s : List UInt8) : Option ByteArray := (Esc.readL false (bt' s)).map bt'
/-- the kind that a name's end tells, and the name -/
def endK (name : List UInt8) : Int × List UInt8 :=
  if name.getLast? = some 62 then (5, name.dropLast) else if name.getLast? = some 60 then (6, name.dropLast) else if name.getLast? = some 126 then (8, name.dropLast) else (3, name)
/-- the filter of what stands between its signs -/
def itemF (s : List UInt8) : Option Flt := match cutL 61 s with
  | none => none
  | some (name, value) =>
    if (endK name).1 = 3 ∧ value.contains 42 = true then
      (if value = [42] then some (.mk 7 (bt' name) (bt' []) [] (bt' []) [])
      else match Dn.allM readV (Txt.splitOn 42 value) with
        | some (x :: r) => some (.mk 4 (bt' name) x r.dropLast (r.getLast?.getD (bt' [])) [])
        | _ => none)
    else (readV value).map fun w => .mk (endK name).1 (bt' (endK name).2) w [] (bt' []) []
def loopL (rd : List UInt8 → Option (Flt × List UInt8)) : Nat → List UInt8 → Option (List Flt × List UInt8)
  | 0, r => some ([], r)
  | f + 1, r => match r with
    | 40 :: _ => match rd r with
      | some (x, r') => (loopL rd f r').map fun p => (x :: p.1, p.2)
      | none => none
    | _ => some ([], r)
def setK (rd : List UInt8 → Option (Flt × List UInt8)) (k : Int) (r : List UInt8) : Option (Flt × List UInt8) := match loopL rd r.length r with
  | some (l, 41 :: t) => some (.mk k (bt' []) (bt' []) [] (bt' []) l, t)
  | _ => none
/-- a filter from a place on, at most so deep -/
def rdF : Nat → List UInt8 → Option (Flt × List UInt8)
  | 0, _ => none
  | d + 1, r => match r with
    | 40 :: r => match r with
      | 38 :: r => setK (rdF d) 0 r
      | 124 :: r => setK (rdF d) 1 r
      | 33 :: r => setK (rdF d) 2 r
      | r => match cutL 41 r with
        | some (s, t) => (itemF s).map fun f => (f, t)
        | none => none
    | _ => none
def parsedF (s : List UInt8) : Option Flt := match rdF 6 s with
  | some (f, []) => if rightF 1 f then some f else none
  | _ => none
/-! ### texts -/
theorem cutL_here (c : UInt8) (y : List UInt8) : ∀ x : List UInt8, c ∉ x → cutL c (x ++ c :: y) = some (x, y)
  | [], _ => by rw [List.nil_append, cutL, if_pos rfl]
  | b :: t, h => by
    have h1 : b ≠ c := fun e => h (by simp [e])
    have h2 : c ∉ t := fun e => h (by simp [e])
    rw [List.cons_append, cutL, if_neg h1, cutL_here c y t h2]; rfl
theorem split_none (c : UInt8) : ∀ x : List UInt8, c ∉ x → Txt.splitOn c x = [x]
  | [], _ => rfl
  | b :: t, h => by
    have h1 : b ≠ c := fun e => h (by simp [e])
    rw [Txt.splitOn, if_neg h1, split_none c t (fun e => h (by simp [e]))]
theorem split_here (c : UInt8) (y : List UInt8) : ∀ x : List UInt8, c ∉ x → Txt.splitOn c (x ++ c :: y) = x :: Txt.splitOn c y
  | [], _ => by rw [List.nil_append, Txt.splitOn, if_pos rfl]
  | b :: t, h => by
    have h1 : b ≠ c := fun e => h (by simp [e])
    rw [List.cons_append, Txt.splitOn, if_neg h1, split_here c y t (fun e => h (by simp [e]))]
theorem bl_bt (s : ByteArray) : bt' (bl s) = s := rfl
theorem bl_of (l : List UInt8) : bl (bt' l) = l := by simp [bl, bt']
theorem size_bl (s : ByteArray) : (bl s).length = s.size := Txt.size_list s
theorem size_zero {s : ByteArray} (h : s.size = 0) : s = bt' [] := ByteArray.ext (Array.eq_empty_of_size_eq_zero h)
theorem bl_zero {s : ByteArray} (h : s.size = 0) : bl s = [] := by rw [size_zero h]; rfl
theorem readV_esc (s : ByteArray) : readV (escF (bl s)) = some s := by
  unfold readV
  rw [show bt' (escF (bl s)) = ⟨((bl s).flatMap escB).toArray⟩ from rfl, read_back Prints.esc]; rfl
/-! ### names -/
def nameByte (b : UInt8) : Bool := Dn.typeByte b || decide (b.toNat = 59)
theorem split_mem (c : UInt8) : ∀ l : List UInt8, ∀ b ∈ l, b = c ∨ ∃ z ∈ Txt.splitOn c l, b ∈ z
  | [], b, h => by cases h
  | x :: t, b, h => by
    rw [Txt.splitOn]
    by_cases hx : x = c
    · rw [if_pos hx]
      rcases List.mem_cons.1 h with rfl | h
      · exact .inl hx
      · rcases split_mem c t b h with h | ⟨z, h1, h2⟩
        · exact .inl h
        · exact .inr ⟨z, by simp [h1], h2⟩
    · rw [if_neg hx]
      cases hs : Txt.splitOn c t with
      | nil => exact absurd hs (Txt.splitOn_ne c t)
      | cons a r =>
        rcases List.mem_cons.1 h with rfl | h
        · exact .inr ⟨b :: a, by simp, by simp⟩
        · rcases split_mem c t b h with h | ⟨z, h1, h2⟩
          · exact .inl h
          · rw [hs] at h1
            rcases List.mem_cons.1 h1 with rfl | h1
            · exact .inr ⟨x :: z, by simp, by simp [h2]⟩
            · exact .inr ⟨z, by simp [h1], h2⟩
theorem name_bytes {l : List UInt8} (h : nameB l = true) : ∀ b ∈ l, nameByte b = true := fun b hb => by
  unfold nameB at h
  rw [Bool.and_eq_true] at h
  have h2 := h.2
  split at h2
  · cases h2
  · rename_i t r hs
    rw [Bool.and_eq_true] at h2
    unfold nameByte
    rcases split_mem 59 l b hb with rfl | ⟨z, hz, hbz⟩
    · decide
    · rw [hs] at hz
      rcases List.mem_cons.1 hz with rfl | hz
      · rw [Dn.type_bytes z h2.1 b hbz]; rfl
      · have h3 := List.all_eq_true.1 h2.2 z hz
        unfold optB at h3
        rw [Bool.and_eq_true] at h3
        have h4 := List.all_eq_true.1 h3.2 b hbz
        unfold Dn.keyRest at h4
        unfold Dn.typeByte
        rw [h4]; rfl
theorem nameByte_ne {b : UInt8} (h : nameByte b = true) : b ≠ 61 ∧ b ≠ 41 ∧ b ≠ 40 ∧ b ≠ 42 ∧ b ≠ 62 ∧ b ≠ 60 ∧ b ≠ 126 ∧ b ≠ 38 ∧ b ≠ 124 ∧ b ≠ 33 := by
  refine ⟨?_, ?_, ?_, ?_, ?_, ?_, ?_, ?_, ?_, ?_⟩ <;> (rintro rfl; revert h; decide)
theorem name_ne {l : List UInt8} (h : nameB l = true) : l ≠ [] := by rintro rfl; revert h; decide
theorem end_name {l : List UInt8} (h : nameB l = true) : endK l = (3, l) := by
  have hb := name_bytes h
  have hl : ∀ c, l.getLast? = some c → nameByte c = true := fun c hc => hb c (List.mem_of_getLast? hc)
  unfold endK
  rw [if_neg (fun e => (nameByte_ne (hl _ e)).2.2.2.2.1 rfl), if_neg (fun e => (nameByte_ne (hl _ e)).2.2.2.2.2.1 rfl), if_neg (fun e => (nameByte_ne (hl _ e)).2.2.2.2.2.2.1 rfl)]
theorem end_sign (l : List UInt8) (c : UInt8) (k : Int) (h : (c = 62 ∧ k = 5) ∨ (c = 60 ∧ k = 6) ∨ (c = 126 ∧ k = 8)) : endK (l ++ [c]) = (k, l) := by
  unfold endK
  rw [List.getLast?_append]
  rcases h with ⟨rfl, rfl⟩ | ⟨rfl, rfl⟩ | ⟨rfl, rfl⟩ <;> simp
end Go.Proofs.YtiafggoaedifdaaGreatDoor.Fl
/- filt, plain: a right filter's text, read, is that filter. No program. -/
namespace Go.Proofs.YtiafggoaedifdaaGreatDoor.Fl
open Go.Lib
set_option linter.unusedVariables false
theorem esc_no (v : List UInt8) (b : UInt8) (hb : b ∈ escF v) : b ≠ 42 ∧ b ≠ 40 ∧ b ≠ 41 := flat_signs Prints.esc v b hb
theorem split_stars : ∀ (l : List ByteArray) (f : ByteArray), Txt.splitOn 42 ((l.flatMap fun s => escF (bl s) ++ [42]) ++ escF (bl f)) = l.map (fun s => escF (bl s)) ++ [escF (bl f)]
  | [], f => split_none 42 _ (fun h => (esc_no _ _ h).1 rfl)
  | x :: t, f => by
    rw [List.flatMap_cons, List.append_assoc, List.append_assoc]
    show Txt.splitOn 42 (escF (bl x) ++ 42 :: ((t.flatMap fun s => escF (bl s) ++ [42]) ++ escF (bl f))) = _
    rw [split_here 42 _ _ (fun h => (esc_no _ _ h).1 rfl), split_stars t f]; rfl
theorem allM_esc : ∀ l : List ByteArray, Dn.allM readV (l.map fun s => escF (bl s)) = some l := fun l => Dn.allM_map readV (fun s => escF (bl s)) l (fun s _ => readV_esc s)
theorem size_of_all {a : List ByteArray} (h : a = []) : a.isEmpty = true := by rw [h]; rfl
/-- the text of a filter with a name, between its signs -/
theorem item_print (k : Int) (n v : ByteArray) (a : List ByteArray) (f : ByteArray) (hk : k = 3 ∨ k = 4 ∨ k = 5 ∨ k = 6 ∨ k = 7 ∨ k = 8) (h : oneB (.mk k n v a f []) = true) : itemF (bl n ++ midB k v a f) = some (.mk k n v a f []) ∧ (∀ b ∈ bl n ++ midB k v a f, b ≠ 41) ∧ nameB (bl n) = true := by
  unfold oneB at h
  dsimp only at h
  rw [if_neg (by omega)] at h
  by_cases h7 : k = 7
  · subst h7
    rw [if_pos rfl] at h
    unfold namedB bareB at h
    simp only [Bool.and_eq_true, decide_eq_true_eq, List.isEmpty_iff] at h
    obtain ⟨⟨hn, _⟩, hv, ha, hf⟩ := h
    have hb := name_bytes hn
    have e61 : (61 : UInt8) ∉ bl n := fun hm => (nameByte_ne (hb _ hm)).1 rfl
    refine ⟨?_, fun b hb2 => ?_, hn⟩
    · unfold itemF midB
      rw [if_pos rfl, cutL_here 61 [42] (bl n) e61]
      dsimp only
      rw [end_name hn, if_pos ⟨rfl, by decide⟩, if_pos rfl, size_zero hv, ha, size_zero hf]; rfl
    · unfold midB at hb2
      rw [if_pos rfl] at hb2
      rcases List.mem_append.1 hb2 with hb2 | hb2
      · exact (nameByte_ne (hb _ hb2)).2.1
      · simp at hb2; rcases hb2 with rfl | rfl <;> decide
  rw [if_neg h7] at h
  by_cases h4 : k = 4
  · subst h4
    rw [if_pos rfl] at h
    unfold namedB at h
    simp only [Bool.and_eq_true, decide_eq_true_eq] at h
    obtain ⟨⟨hn, _⟩, hbare, _, hany⟩ := h
    have hb := name_bytes hn
    have e61 : (61 : UInt8) ∉ bl n := fun hm => (nameByte_ne (hb _ hm)).1 rfl
    obtain ⟨val, hval⟩ : ∃ val, val = ((v :: a).flatMap fun s => escF (bl s) ++ [42]) ++ escF (bl f) := ⟨_, rfl⟩
    have hmid : midB 4 v a f = 61 :: val := by unfold midB; rw [if_neg (by decide), if_pos rfl, hval]; rfl
    have hstar : (42 : UInt8) ∈ val := by
      rw [hval, List.flatMap_cons]; simp
    have hne : val ≠ [42] := by
      intro e
      have hs := split_stars (v :: a) f
      rw [← hval, e] at hs
      have e2 : Txt.splitOn 42 [42] = [[], []] := by decide
      rw [e2] at hs
      cases a with
      | cons x t => simp at hs
      | nil =>
        simp at hs
        obtain ⟨hs1, hs2⟩ := hs
        have hv := readV_esc v
        have hf := readV_esc f
        rw [hs1] at hv
        rw [hs2] at hf
        have : readV [] = some (bt' []) := by
          have := readV_esc (bt' [])
          rwa [bl_of] at this
        rw [this] at hv hf
        cases hv; cases hf
        have : bareB (bt' []) [] (bt' []) = true := by decide
        rw [this] at hbare; cases hbare
    refine ⟨?_, fun b hb2 => ?_, hn⟩
    · rw [hmid]
      unfold itemF
      rw [cutL_here 61 val (bl n) e61]
      dsimp only
      rw [end_name hn, if_pos ⟨rfl, List.contains_iff_mem.2 hstar⟩, if_neg hne, hval, split_stars (v :: a) f]
      have := allM_esc ((v :: a) ++ [f])
      rw [List.map_append] at this
      rw [show (v :: a).map (fun s => escF (bl s)) ++ [escF (bl f)] = (v :: a).map (fun s => escF (bl s)) ++ [f].map (fun s => escF (bl s)) from rfl, this]
      show some (Flt.mk 4 (bt' (bl n)) v (a ++ [f]).dropLast ((a ++ [f]).getLast?.getD (bt' [])) []) = _
      rw [List.dropLast_concat, List.getLast?_concat]; rfl
    · rcases List.mem_append.1 hb2 with hb2 | hb2
      · exact (nameByte_ne (hb _ hb2)).2.1
      · rw [hmid, hval] at hb2
        rcases List.mem_cons.1 hb2 with rfl | hb2
        · decide
        · rcases List.mem_append.1 hb2 with hb2 | hb2
          · obtain ⟨s, _, hs⟩ := List.mem_flatMap.1 hb2
            rcases List.mem_append.1 hs with hs | hs
            · exact (esc_no _ _ hs).2.2
            · rw [List.mem_singleton] at hs; rw [hs]; decide
          · exact (esc_no _ _ hb2).2.2
  rw [if_neg h4, if_pos (by omega)] at h
  unfold namedB at h
  simp only [Bool.and_eq_true, decide_eq_true_eq, List.isEmpty_iff] at h
  obtain ⟨⟨hn, _⟩, ha, hf⟩ := h
  have hb := name_bytes hn
  have e61 : (61 : UInt8) ∉ bl n := fun hm => (nameByte_ne (hb _ hm)).1 rfl
  have hnv : (escF (bl v)).contains 42 = false := by
    cases hc : (escF (bl v)).contains 42
    · rfl
    · exact absurd rfl (esc_no _ _ (List.contains_iff_mem.1 hc)).1
  have hmid : midB k v a f = signB k ++ escF (bl v) := by unfold midB; rw [if_neg h7, if_neg h4]
  have hsg : ∃ c : List UInt8, signB k = c ++ [61] ∧ (61 : UInt8) ∉ c ∧ (∀ b ∈ c, b ≠ 41) ∧ endK (bl n ++ c) = (k, bl n) := by
    rcases hk with rfl | rfl | rfl | rfl | rfl | rfl
    · exact ⟨[], rfl, by simp, by simp, by rw [List.append_nil]; exact end_name hn⟩
    · exact absurd rfl h4
    · exact ⟨[62], rfl, by decide, by decide, end_sign _ _ _ (.inl ⟨rfl, rfl⟩)⟩
    · exact ⟨[60], rfl, by decide, by decide, end_sign _ _ _ (.inr (.inl ⟨rfl, rfl⟩))⟩
    · exact absurd rfl h7
    · exact ⟨[126], rfl, by decide, by decide, end_sign _ _ _ (.inr (.inr ⟨rfl, rfl⟩))⟩
  obtain ⟨c, c1, c2, c3, c4⟩ := hsg
  refine ⟨?_, fun b hb2 => ?_, hn⟩
  · rw [hmid, c1]
    unfold itemF
    rw [show bl n ++ (c ++ [61] ++ escF (bl v)) = (bl n ++ c) ++ 61 :: escF (bl v) by simp, cutL_here 61 _ _ (by
      intro hm
      rcases List.mem_append.1 hm with hm | hm
      · exact e61 hm
      · exact c2 hm)]
    dsimp only
    rw [hnv, if_neg (by simp), readV_esc, c4, ha, size_zero hf]
    rfl
  · rcases List.mem_append.1 hb2 with hb2 | hb2
    · exact (nameByte_ne (hb _ hb2)).2.1
    · rw [hmid, c1] at hb2
      rcases List.mem_append.1 hb2 with hb2 | hb2
      · rcases List.mem_append.1 hb2 with hb2 | hb2
        · exact c3 b hb2
        · rw [List.mem_singleton] at hb2; rw [hb2]; decide
      · exact (esc_no _ _ hb2).2.2
theorem one_kind {k : Int} {n v : ByteArray} {a : List ByteArray} {f : ByteArray} {l : List Flt} (h : oneB (.mk k n v a f l) = true) : ((k = 0 ∨ k = 1 ∨ k = 2) ∧ n = bt' [] ∧ v = bt' [] ∧ a = [] ∧ f = bt' [] ∧ 1 ≤ l.length ∧ l.length ≤ 8) ∨ ((k = 3 ∨ k = 4 ∨ k = 5 ∨ k = 6 ∨ k = 7 ∨ k = 8) ∧ l = [] ∧ nameB (bl n) = true) := by
  unfold oneB at h
  dsimp only at h
  by_cases h0 : k = 0 ∨ k = 1 ∨ k = 2
  · rw [if_pos h0] at h
    unfold bareB at h
    simp only [Bool.and_eq_true, decide_eq_true_eq, List.isEmpty_iff] at h
    obtain ⟨h1, ⟨h2, h3, h4⟩, h5, h6, _⟩ := h
    exact .inl ⟨h0, size_zero h1, size_zero h2, h3, size_zero h4, h5, h6⟩
  · rw [if_neg h0] at h
    right
    by_cases h7 : k = 7
    · rw [if_pos h7] at h
      unfold namedB at h
      simp only [Bool.and_eq_true, List.isEmpty_iff] at h
      exact ⟨by omega, h.1.2.1, h.1.1⟩
    · rw [if_neg h7] at h
      by_cases h4 : k = 4
      · rw [if_pos h4] at h
        unfold namedB at h
        simp only [Bool.and_eq_true, List.isEmpty_iff] at h
        exact ⟨by omega, h.1.2.1, h.1.1⟩
      · rw [if_neg h4] at h
        by_cases h3 : k = 3 ∨ k = 5 ∨ k = 6 ∨ k = 8
        · rw [if_pos h3] at h
          unfold namedB at h
          simp only [Bool.and_eq_true, List.isEmpty_iff] at h
          exact ⟨by omega, h.1.2.1, h.1.1⟩
        · rw [if_neg h3] at h; cases h
theorem prF_head (f : Flt) : ∃ t, prF f = 40 :: t := by cases f; exact ⟨_, rfl⟩
theorem prFs_len : ∀ l : List Flt, l.length ≤ (prFs l).length
  | [] => Nat.le_refl _
  | x :: r => by
    obtain ⟨t, ht⟩ := prF_head x
    have := prFs_len r
    rw [prFs, ht, List.length_append, List.length_cons, List.length_cons]; omega
theorem right_one {d : Nat} {f : Flt} (h : rightF d f = true) : d ≤ 6 ∧ oneB f = true ∧ rightFs (d + 1) f.l = true := by
  obtain ⟨k, n, v, a, fi, l⟩ := f
  rw [rightF] at h
  simp only [Bool.and_eq_true, decide_eq_true_eq] at h
  exact ⟨h.1, h.2.1, h.2.2⟩
theorem rights_mem : ∀ {l : List Flt} {d : Nat}, rightFs d l = true → ∀ x ∈ l, rightF d x = true
  | [], _, _, x, hx => by cases hx
  | y :: r, d, h, x, hx => by
    rw [rightFs, Bool.and_eq_true] at h
    rcases List.mem_cons.1 hx with rfl | hx
    · exact h.1
    · exact rights_mem h.2 x hx
theorem rdF_item (d : Nat) (c : UInt8) (r : List UInt8) (h : c ≠ 38 ∧ c ≠ 124 ∧ c ≠ 33) : rdF (d + 1) (40 :: c :: r) = match cutL 41 (c :: r) with
    | some (s, t) => (itemF s).map fun f => (f, t)
    | none => none := by
  rw [rdF.eq_def]
  dsimp only
  split
  · rename_i r' e
    injection e with _ e
    subst e
    split
    · rename_i e; injection e with e _; exact absurd e h.1
    · rename_i e; injection e with e _; exact absurd e h.2.1
    · rename_i e; injection e with e _; exact absurd e h.2.2
    · rfl
  · rename_i e; exact (e _ rfl).elim
/-- WHAT IS PRINTED, READ -/
theorem rd_print : ∀ (d : Nat) (f : Flt) (t : List UInt8), d ≤ 6 → rightF (7 - d) f = true → rdF d (prF f ++ t) = some (f, t)
  | 0, f, t, _, h => by
    have := (right_one h).1
    omega
  | d + 1, .mk k n v a fi l, t, hd, h => by
    obtain ⟨_, h1, h2⟩ := right_one h
    dsimp only [Flt.l] at h2
    rw [show 7 - (d + 1) + 1 = 7 - d by omega] at h2
    rcases one_kind h1 with ⟨hk, rfl, rfl, rfl, rfl, hl1, _⟩ | ⟨hk, rfl, hn⟩
    · have hloop : ∀ (l : List Flt) (m : Nat), rightFs (7 - d) l = true → l.length < m → loopL (rdF d) m (prFs l ++ 41 :: t) = some (l, 41 :: t) := by
        intro l
        induction l with
        | nil =>
          intro m _ hm
          obtain ⟨m, rfl⟩ : ∃ q, m = q + 1 := ⟨m - 1, by simp at hm; omega⟩
          rfl
        | cons x r ih =>
          intro m hr hm
          rw [rightFs, Bool.and_eq_true] at hr
          obtain ⟨m, rfl⟩ : ∃ q, m = q + 1 := ⟨m - 1, by simp at hm; omega⟩
          have hx := rd_print d x (prFs r ++ 41 :: t) (by omega) hr.1
          rw [prFs, List.append_assoc]
          obtain ⟨y, hy⟩ := prF_head x
          rw [hy] at hx ⊢
          rw [List.cons_append] at hx ⊢
          rw [loopL, hx]
          simp only [ih m hr.2 (by simp at hm; omega)]
          rfl
      have hset : ∀ k, setK (rdF d) k (prFs l ++ 41 :: t) = some (.mk k (bt' []) (bt' []) [] (bt' []) l, t) := fun k => by
        unfold setK
        rw [hloop l _ h2 (by have := prFs_len l; rw [List.length_append, List.length_cons]; omega)]
        rfl
      have he : escF (bl (bt' [])) = [] := rfl
      rw [prF]
      have e0 : ∀ c : List UInt8, 40 :: (bl (bt' []) ++ (c ++ []) ++ prFs l ++ [41]) ++ t = 40 :: (c ++ (prFs l ++ 41 :: t)) := fun c => by simp [bl_of]
      rcases hk with rfl | rfl | rfl
      · rw [show midB 0 (bt' []) [] (bt' []) = [38] ++ [] from rfl, e0]
        show setK (rdF d) 0 (prFs l ++ 41 :: t) = _
        exact hset 0
      · rw [show midB 1 (bt' []) [] (bt' []) = [124] ++ [] from rfl, e0]
        show setK (rdF d) 1 (prFs l ++ 41 :: t) = _
        exact hset 1
      · rw [show midB 2 (bt' []) [] (bt' []) = [33] ++ [] from rfl, e0]
        show setK (rdF d) 2 (prFs l ++ 41 :: t) = _
        exact hset 2
    · obtain ⟨i1, i2, _⟩ := item_print k n v a fi hk h1
      have hb := name_bytes hn
      rw [prF, prFs, List.append_nil]
      obtain ⟨c, r, hcr⟩ : ∃ c r, bl n ++ midB k v a fi = c :: r ∧ nameByte c = true := by
        cases hbl : bl n with
        | nil => exact absurd hbl (name_ne hn)
        | cons c r => exact ⟨c, r ++ midB k v a fi, rfl, hb c (by rw [hbl]; simp)⟩
      obtain ⟨hcr, hc⟩ := hcr
      have hcut := cutL_here 41 t (bl n ++ midB k v a fi) (fun hm => i2 _ hm rfl)
      rw [show 40 :: (bl n ++ midB k v a fi ++ [41]) ++ t = 40 :: (bl n ++ midB k v a fi ++ 41 :: t) by simp]
      rw [hcr] at hcut i1 ⊢
      have hne := nameByte_ne hc
      rw [List.cons_append] at hcut ⊢
      rw [rdF_item d c _ hne.2.2.2.2.2.2.2, hcut]
      dsimp only
      rw [i1]; rfl
theorem parsed_print (f : Flt) (h : rightF 1 f = true) : parsedF (prF f) = some f := by
  have := rd_print 6 f [] (Nat.le_refl _) h
  rw [List.append_nil] at this
  unfold parsedF
  rw [this]
  dsimp only
  rw [if_pos h]
end Go.Proofs.YtiafggoaedifdaaGreatDoor.Fl
/- filt, plain: the same filters, all filters in one, their names, how deep they stand. No program. -/
namespace Go.Proofs.YtiafggoaedifdaaGreatDoor.Fl
set_option linter.unusedVariables false
mutual
def sameF : Flt → Flt → Bool
  | .mk k n v a f l, .mk k' n' v' a' f' l' => decide (k = k') && (decide (n = n') && (decide (v = v') && (decide (f = f') && (decide (a = a') && sameFs l l'))))
def sameFs : List Flt → List Flt → Bool
  | [], [] => true
  | x :: r, y :: s => sameF x y && sameFs r s
  | _, _ => false
end
mutual
theorem sameF_iff : ∀ x y : Flt, sameF x y = true ↔ x = y
  | .mk k n v a f l, .mk k' n' v' a' f' l' => by
    rw [sameF]
    simp only [Bool.and_eq_true, decide_eq_true_eq, sameFs_iff l l']
    constructor
    · rintro ⟨rfl, rfl, rfl, rfl, rfl, rfl⟩; rfl
    · intro h; injection h with h1 h2 h3 h4 h5 h6; exact ⟨h1, h2, h3, h5, h4, h6⟩
theorem sameFs_iff : ∀ x y : List Flt, sameFs x y = true ↔ x = y
  | [], [] => by simp [sameFs]
  | x :: r, y :: s => by rw [sameFs, Bool.and_eq_true, sameF_iff x y, sameFs_iff r s, List.cons.injEq]
  | [], _ :: _ => by simp [sameFs]
  | _ :: _, [] => by simp [sameFs]
end
theorem sameF_refl (x : Flt) : sameF x x = true := (sameF_iff x x).2 rfl
mutual
/-- all in a filter, itself first, each with how deep it stands -/
def preF : Nat → Flt → List (Nat × Flt)
  | d, .mk k n v a f l => (d, .mk k n v a f l) :: preFs (d + 1) l
def preFs : Nat → List Flt → List (Nat × Flt)
  | _, [] => []
  | d, x :: r => preF d x ++ preFs d r
end
mutual
theorem right_pre : ∀ (d : Nat) (f : Flt), rightF d f = (preF d f).all fun p => decide (p.1 ≤ 6) && oneB p.2
  | d, .mk k n v a f l => by rw [rightF, preF, List.all_cons, rights_pre (d + 1) l, Bool.and_assoc]
theorem rights_pre : ∀ (d : Nat) (l : List Flt), rightFs d l = (preFs d l).all fun p => decide (p.1 ≤ 6) && oneB p.2
  | _, [] => rfl
  | d, x :: r => by rw [rightFs, preFs, List.all_append, right_pre d x, rights_pre d r]
end
mutual
def nmF : Flt → List ByteArray
  | .mk _ n _ _ _ l => (if n.size = 0 then [] else [n]) ++ nmFs l
def nmFs : List Flt → List ByteArray
  | [] => []
  | x :: r => nmF x ++ nmFs r
end
def nmOf (p : Nat × Flt) : Option ByteArray := if p.2.name.size = 0 then none else some p.2.name
mutual
theorem nm_pre : ∀ (d : Nat) (f : Flt), nmF f = (preF d f).filterMap nmOf
  | d, .mk k n v a f l => by
    rw [nmF, preF, List.filterMap_cons, nms_pre (d + 1) l]
    by_cases h : n.size = 0
    · simp [nmOf, Flt.name, h]
    · simp [nmOf, Flt.name, h]
theorem nms_pre : ∀ (d : Nat) (l : List Flt), nmFs l = (preFs d l).filterMap nmOf
  | _, [] => rfl
  | d, x :: r => by rw [nmFs, preFs, List.filterMap_append, nm_pre d x, nms_pre d r]
end
/-- the names in a right filter -/
def namesF (f : Flt) : List ByteArray := if rightF 1 f = true then nmF f else []
mutual
theorem right_up : ∀ (d : Nat) (f : Flt), rightF (d + 1) f = true → rightF d f = true
  | d, .mk k n v a f l, h => by
    rw [rightF] at h ⊢
    simp only [Bool.and_eq_true, decide_eq_true_eq] at h ⊢
    exact ⟨by omega, h.2.1, rights_up (d + 1) l h.2.2⟩
theorem rights_up : ∀ (d : Nat) (l : List Flt), rightFs (d + 1) l = true → rightFs d l = true
  | _, [], _ => rfl
  | d, x :: r, h => by
    rw [rightFs, Bool.and_eq_true] at h ⊢
    exact ⟨right_up d x h.1, rights_up d r h.2⟩
end
mutual
theorem names_right : ∀ (d : Nat) (f : Flt), rightF d f = true → nmF f ≠ [] ∧ ∀ n ∈ nmF f, nameB (bl n) = true
  | d, .mk k n v a f l, h => by
    obtain ⟨_, h1, h2⟩ := right_one h
    dsimp only [Flt.l] at h2
    obtain ⟨i1, i2⟩ := names_rights (d + 1) l h2
    rw [nmF]
    rcases one_kind h1 with ⟨_, rfl, rfl, rfl, rfl, hl, _⟩ | ⟨_, rfl, hn⟩
    · rw [if_pos (show (bt' []).size = 0 from rfl), List.nil_append]
      exact ⟨i1 (by rintro rfl; simp at hl), i2⟩
    · have hz : ¬ n.size = 0 := fun e => name_ne hn (bl_zero e)
      rw [if_neg hz]
      refine ⟨by simp, fun m hm => ?_⟩
      rcases List.mem_append.1 hm with hm | hm
      · rw [List.mem_singleton] at hm; rw [hm]; exact hn
      · exact i2 m hm
theorem names_rights : ∀ (d : Nat) (l : List Flt), rightFs d l = true → (l ≠ [] → nmFs l ≠ []) ∧ ∀ n ∈ nmFs l, nameB (bl n) = true
  | _, [], _ => ⟨fun h => absurd rfl h, fun n hn => by cases hn⟩
  | d, x :: r, h => by
    rw [rightFs, Bool.and_eq_true] at h
    obtain ⟨i1, i2⟩ := names_right d x h.1
    obtain ⟨_, i4⟩ := names_rights d r h.2
    rw [nmFs]
    refine ⟨fun _ e => i1 (List.append_eq_nil_iff.1 e).1, fun n hn => ?_⟩
    rcases List.mem_append.1 hn with hn | hn
    · exact i2 n hn
    · exact i4 n hn
end
/-- one that has no sets in it has its own name alone -/
theorem names_item {f : Flt} (h : oneB f = true) (hk : ¬ f.kind ≤ 2) : nmF f = [f.name] := by
  obtain ⟨k, n, v, a, fi, l⟩ := f
  rcases one_kind h with ⟨h0, _⟩ | ⟨_, rfl, hn⟩
  · exfalso; apply hk; show k ≤ 2; omega
  · have hz : ¬ n.size = 0 := fun e => name_ne hn (bl_zero e)
    rw [nmF, if_neg hz]; rfl
theorem kind_ge {f : Flt} (h : oneB f = true) : 0 ≤ f.kind := by
  obtain ⟨k, n, v, a, fi, l⟩ := f
  rcases one_kind h with ⟨h0, _⟩ | ⟨h0, _⟩ <;> (show 0 ≤ k; omega)
/-! ### the laws -/
theorem wraps_text (x : Flt) : prF (.mk 2 (bt' []) (bt' []) [] (bt' []) [x]) = 40 :: 33 :: (prF x ++ [41]) := by
  rw [prF, prFs, prFs, List.append_nil]
  show 40 :: (([] : List UInt8) ++ ([33] ++ []) ++ prF x ++ [41]) = _
  simp
theorem wraps_names (x : Flt) : nmF (.mk 2 (bt' []) (bt' []) [] (bt' []) [x]) = nmF x := by
  rw [nmF, nmFs, nmFs, List.append_nil]; rfl
theorem sets_text (k : Int) (c : UInt8) (hk : (k = 0 ∧ c = 38) ∨ (k = 1 ∧ c = 124)) (x y : Flt) : prF (.mk k (bt' []) (bt' []) [] (bt' []) [x, y]) = 40 :: c :: (prF x ++ prF y ++ [41]) := by
  rw [prF, prFs, prFs, prFs, List.append_nil]
  rcases hk with ⟨rfl, rfl⟩ | ⟨rfl, rfl⟩
  · show 40 :: (([] : List UInt8) ++ ([38] ++ []) ++ (prF x ++ prF y) ++ [41]) = _
    simp
  · show 40 :: (([] : List UInt8) ++ ([124] ++ []) ++ (prF x ++ prF y) ++ [41]) = _
    simp
theorem sets_names (k : Int) (x y : Flt) : nmF (.mk k (bt' []) (bt' []) [] (bt' []) [x, y]) = nmF x ++ nmF y := by
  rw [nmF, nmFs, nmFs, nmFs, List.append_nil]; rfl
theorem sets_right {k : Int} {x y : Flt} (h : rightF 1 (.mk k (bt' []) (bt' []) [] (bt' []) [x, y]) = true) : rightF 1 x = true ∧ rightF 1 y = true := by
  obtain ⟨_, _, h2⟩ := right_one h
  dsimp only [Flt.l] at h2
  rw [rightFs, rightFs, Bool.and_eq_true, Bool.and_eq_true] at h2
  exact ⟨right_up 1 x h2.1, right_up 1 y h2.2.1⟩
theorem wraps_right {x : Flt} (h : rightF 1 (.mk 2 (bt' []) (bt' []) [] (bt' []) [x]) = true) : rightF 1 x = true := by
  obtain ⟨_, _, h2⟩ := right_one h
  dsimp only [Flt.l] at h2
  rw [rightFs, Bool.and_eq_true] at h2
  exact right_up 1 x h2.1
/-- a filter of a name and a value alone -/
theorem item_right (k : Int) (hk : k = 3 ∨ k = 5 ∨ k = 6 ∨ k = 8) (n v : ByteArray) : rightF 1 (.mk k n v [] (bt' []) []) = (nameB (bl n) && decide (v.size ≤ 60)) := by
  rw [rightF, rightFs]
  unfold oneB namedB shortB
  dsimp only
  rw [if_neg (by omega), if_neg (by omega), if_neg (by omega), if_pos hk]
  cases nameB (bl n) <;> cases h : decide (v.size ≤ 60) <;> rfl
theorem item_text (k : Int) (hk : k = 3 ∨ k = 5 ∨ k = 6 ∨ k = 8) (n v : ByteArray) : prF (.mk k n v [] (bt' []) []) = 40 :: (bl n ++ signB k ++ escF (bl v) ++ [41]) := by
  rw [prF, prFs, List.append_nil]
  unfold midB
  rw [if_neg (by omega), if_neg (by omega)]
  simp
/-- what is read is right -/
theorem parsed_right {s : List UInt8} {f : Flt} (h : parsedF s = some f) : rightF 1 f = true := by
  unfold parsedF at h
  split at h
  · split at h
    · cases h; assumption
    · cases h
  · cases h
/-- the text of one with a name, read -/
theorem parsed_item (s : List UInt8) (f : Flt) (hs : ∀ b ∈ s, b ≠ 41) (h0 : ∀ c t, s = c :: t → c ≠ 38 ∧ c ≠ 124 ∧ c ≠ 33) (hne : s ≠ []) (hi : itemF s = some f) : parsedF (40 :: (s ++ [41])) = if rightF 1 f = true then some f else none := by
  have hcut := cutL_here 41 [] s (fun hm => hs _ hm rfl)
  unfold parsedF
  cases s with
  | nil => exact absurd rfl hne
  | cons c t =>
    rw [List.cons_append] at hcut ⊢
    rw [rdF_item 5 c _ (h0 c t rfl), hcut]
    dsimp only
    rw [hi]
    rfl
theorem name_head {l : List UInt8} (h : nameB l = true) (r : List UInt8) : ∀ c t, l ++ r = c :: t → c ≠ 38 ∧ c ≠ 124 ∧ c ≠ 33 := fun c t e => by
  cases l with
  | nil => exact absurd rfl (name_ne h)
  | cons x y =>
    injection e with e _
    rw [← e]
    exact (nameByte_ne (name_bytes h x (by simp))).2.2.2.2.2.2.2
/-- a value with a star in it -/
theorem stars_law (n a b : ByteArray) (hn : nameB (bl n) = true) (ha : a.size ≤ 60) (hb : b.size ≤ 60) :
    parsedF (40 :: (bl n ++ 61 :: (escF (bl a) ++ 42 :: escF (bl b)) ++ [41])) = some (if a.size = 0 ∧ b.size = 0 then .mk 7 n (bt' []) [] (bt' []) [] else .mk 4 n a [] b []) := by
  have e61 : (61 : UInt8) ∉ bl n := fun hm => (nameByte_ne (name_bytes hn _ hm)).1 rfl
  have hs : ∀ z ∈ bl n ++ 61 :: (escF (bl a) ++ 42 :: escF (bl b)), z ≠ 41 := fun z hz => by
    rcases List.mem_append.1 hz with hz | hz
    · exact (nameByte_ne (name_bytes hn _ hz)).2.1
    · rcases List.mem_cons.1 hz with rfl | hz
      · decide
      · rcases List.mem_append.1 hz with hz | hz
        · exact (esc_no _ _ hz).2.2
        · rcases List.mem_cons.1 hz with rfl | hz
          · decide
          · exact (esc_no _ _ hz).2.2
  have hc : (escF (bl a) ++ 42 :: escF (bl b)).contains 42 = true := by rw [List.contains_iff_mem]; simp
  have hesc : ∀ s : ByteArray, escF (bl s) = [] → s.size = 0 := fun s h => by
    have := readV_esc s
    rw [h] at this
    have h0 : readV [] = some (bt' []) := by
      have := readV_esc (bt' [])
      rwa [bl_of] at this
    rw [h0] at this
    cases this; rfl
  by_cases h0 : a.size = 0 ∧ b.size = 0
  · rw [if_pos h0]
    have e : escF (bl a) ++ 42 :: escF (bl b) = [42] := by rw [bl_zero h0.1, bl_zero h0.2]; rfl
    have hi : itemF (bl n ++ 61 :: (escF (bl a) ++ 42 :: escF (bl b))) = some (.mk 7 n (bt' []) [] (bt' []) []) := by
      rw [e]
      unfold itemF
      rw [cutL_here 61 _ _ e61]
      dsimp only
      rw [end_name hn, if_pos ⟨rfl, by decide⟩, if_pos rfl]; rfl
    rw [parsed_item _ _ hs (name_head hn _) (by simp) hi, if_pos]
    rw [rightF, rightFs]
    unfold oneB namedB
    dsimp only
    rw [if_neg (by decide), if_pos rfl, hn]
    decide
  · rw [if_neg h0]
    have e : escF (bl a) ++ 42 :: escF (bl b) ≠ [42] := by
      intro e
      have hs := split_stars [a] b
      have e3 : ([a].flatMap fun s => escF (bl s) ++ [42]) ++ escF (bl b) = escF (bl a) ++ 42 :: escF (bl b) := by simp
      rw [e3, e] at hs
      have e2 : Txt.splitOn 42 [42] = [[], []] := by decide
      rw [e2] at hs
      simp at hs
      exact h0 ⟨hesc a hs.1, hesc b hs.2⟩
    have hi : itemF (bl n ++ 61 :: (escF (bl a) ++ 42 :: escF (bl b))) = some (.mk 4 n a [] b []) := by
      unfold itemF
      rw [cutL_here 61 _ _ e61]
      dsimp only
      rw [end_name hn, if_pos ⟨rfl, hc⟩, if_neg e]
      have hs := split_stars [a] b
      have e3 : ([a].flatMap fun s => escF (bl s) ++ [42]) ++ escF (bl b) = escF (bl a) ++ 42 :: escF (bl b) := by simp
      rw [e3] at hs
      rw [hs]
      have := allM_esc [a, b]
      rw [show [a].map (fun s => escF (bl s)) ++ [escF (bl b)] = [a, b].map (fun s => escF (bl s)) from rfl, this]
      rfl
    rw [parsed_item _ _ hs (name_head hn _) (by simp) hi, if_pos]
    rw [rightF, rightFs]
    unfold oneB namedB
    dsimp only
    have hbare : bareB a [] b = false := by
      unfold bareB
      cases h1 : decide (a.size = 0) with
      | false => rfl
      | true =>
        cases h2 : decide (b.size = 0) with
        | false => rfl
        | true => exact absurd ⟨of_decide_eq_true h1, of_decide_eq_true h2⟩ h0
    rw [if_neg (by decide), if_neg (by decide), if_pos rfl, hn, hbare]
    unfold shortB
    rw [decide_eq_true ha, decide_eq_true hb]
    decide
/-- a value whose bytes are all printed by their digits -/
theorem digits_law (n v : ByteArray) (hn : nameB (bl n) = true) (hv : v.size ≤ 60) :
    parsedF (40 :: (bl n ++ 61 :: ((bl v).flatMap fun b => 92 :: Code.hexB b) ++ [41])) = some (.mk 3 n v [] (bt' []) []) := by
  have e61 : (61 : UInt8) ∉ bl n := fun hm => (nameByte_ne (name_bytes hn _ hm)).1 rfl
  have hno := flat_signs Prints.hex (bl v)
  have hs : ∀ z ∈ bl n ++ 61 :: ((bl v).flatMap fun b => 92 :: Code.hexB b), z ≠ 41 := fun z hz => by
    rcases List.mem_append.1 hz with hz | hz
    · exact (nameByte_ne (name_bytes hn _ hz)).2.1
    · rcases List.mem_cons.1 hz with rfl | hz
      · decide
      · exact (hno z hz).2.2
  have hc : ((bl v).flatMap fun b => 92 :: Code.hexB b).contains 42 = false := by
    cases h : ((bl v).flatMap fun b => 92 :: Code.hexB b).contains 42
    · rfl
    · exact absurd rfl (hno _ (List.contains_iff_mem.1 h)).1
  have hr : readV ((bl v).flatMap fun b => 92 :: Code.hexB b) = some v := by
    unfold readV
    rw [show bt' ((bl v).flatMap fun b => 92 :: Code.hexB b) = ⟨((bl v).flatMap fun b => 92 :: Code.hexB b).toArray⟩ from rfl, read_back Prints.hex]; rfl
  have hi : itemF (bl n ++ 61 :: ((bl v).flatMap fun b => 92 :: Code.hexB b)) = some (.mk 3 n v [] (bt' []) []) := by
    unfold itemF
    rw [cutL_here 61 _ _ e61]
    dsimp only
    rw [end_name hn, hc, if_neg (by simp), hr]; rfl
  rw [parsed_item _ _ hs (name_head hn _) (by simp) hi, if_pos]
  rw [item_right 3 (.inl rfl), hn, decide_eq_true hv]; rfl
end Go.Proofs.YtiafggoaedifdaaGreatDoor.Fl
