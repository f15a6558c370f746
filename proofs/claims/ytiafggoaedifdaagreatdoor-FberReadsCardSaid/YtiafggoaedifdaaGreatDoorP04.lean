/- Several texts, one behind the other. esc: the signs that a value's text has, and whether a byte is one of them. No conditions. esc, code, plain: digits of two, values read. No program. Which texts are types of names: plain functions. No program. plain: texts of ASCII are right; two digits are a byte. filt, plain: a value as it is printed in a filter, and read again. No program. plain: texts cut at a sign; the bytes of a type; all or none. filt, plain: filters, which are right, their texts, and filters of texts; what is printed, read, is that. No program. tlv, plain: trees of tags, which are right, their bytes, trees of bytes; what is laid, read, is that; what is read has bytes that are no more. No program. tlv, plain: what is read has bytes that are no more than those it was read of; equality of trees. No program. -/
import Derived.Test.YtiafggoaedifdaaGreatDoorP03
import Derived.Test.YtiafggoaedifdaaGreatDoorP01
import Derived.Test.YtiafggoaedifdaaGreatDoorP02
import Derived.Lib.Split
import Derived.Lib.SplitLaws
import Derived.Lib.IndexBytes
import Derived.Lib.IndexMore
/- esc: the signs that a value's text has, and whether a byte is one of them. No conditions. -/
namespace Go.Proofs.YtiafggoaedifdaaGreatDoor.Esc
open Go.RowKit Go.Lib
set_option linter.unusedVariables false
def first2 : List UInt8 := [32, 35]
def signs7 : List UInt8 := [34, 43, 44, 59, 60, 62, 92]
theorem one2 (b : UInt8) (W : World) (n : Nat) (hn : n = W.heap.size) : Calls Tryz.prog 51 #[.int .u8 b.toNat, .slice (some ⟨n, 0, none⟩) 2 2] (W.alloc (.cells #[.int .u8 32, .int .u8 35] 5)) fun e w' => e = .returned (.bool (first2.contains b)) ∧ (W.alloc (.cells #[.int .u8 32, .int .u8 35] 5)) = w' :=
 hn ▸ one_calls b _ first2 _ (lit_bytes W (fun _ => True) first2 trivial 2 2 rfl (by decide)) (by decide)
theorem one7 (b : UInt8) (W : World) (n : Nat) (hn : n = W.heap.size) : Calls Tryz.prog 51 #[.int .u8 b.toNat, .slice (some ⟨n, 0, none⟩) 7 7] (W.alloc (.cells #[.int .u8 34, .int .u8 43, .int .u8 44, .int .u8 59, .int .u8 60, .int .u8 62, .int .u8 92] 5)) fun e w' => e = .returned (.bool (signs7.contains b)) ∧ (W.alloc (.cells #[.int .u8 34, .int .u8 43, .int .u8 44, .int .u8 59, .int .u8 60, .int .u8 62, .int .u8 92] 5)) = w' :=
 hn ▸ one_calls b _ signs7 _ (lit_bytes W (fun _ => True) signs7 trivial 7 7 rfl (by decide)) (by decide)
def nameR (n : Nat) (k : Nat) (b : UInt8) : Bool × Bool := ((k == 0 && first2.contains b) || (k + 1 == n && b == 32) || signs7.contains b, !plainB b)
end Go.Proofs.YtiafggoaedifdaaGreatDoor.Esc
/- esc, code, plain: digits of two, values read. No program. -/
namespace Go.Proofs.YtiafggoaedifdaaGreatDoor.Code
open Go.RowKit
set_option linter.unusedVariables false
def hexVal (c : UInt8) : Option Nat := if 48 ≤ c.toNat ∧ c.toNat ≤ 57 then some (c.toNat - 48) else if 97 ≤ c.toNat ∧ c.toNat ≤ 102 then some (c.toNat - 87) else if 65 ≤ c.toNat ∧ c.toNat ≤ 70 then some (c.toNat - 55) else none
theorem hexVal_lt {c : UInt8} {n : Nat} (h : hexVal c = some n) : n < 16 ∧ c.toNat < 128 := by
 unfold hexVal at h
 split at h
 ·cases h; omega
 ·split at h
  ·cases h; omega
  ·split at h
   ·cases h; omega
   ·cases h
def unhex2 : List UInt8 → Option (List UInt8)
 | [] => some []
 | [a, b] => match hexVal a, hexVal b with
  | some x, some y => some [UInt8.ofNat (16 * x + y)]
  | _, _ => none
 | _ => none
end Go.Proofs.YtiafggoaedifdaaGreatDoor.Code
namespace Go.Proofs.YtiafggoaedifdaaGreatDoor.Esc
open Go.RowKit
set_option linter.unusedVariables false
theorem extract_size (s : ByteArray) (i j : Nat) (hij : i ≤ j) (hj : j ≤ s.size) : (s.extract i j).size = j - i := by
 rw [ByteArray.size_extract]; omega
def two (s : ByteArray) (at_ : Nat) : List UInt8 := (s.data.toList.drop at_).take 2
def digitAt (s : ByteArray) (at_ : Nat) : Option UInt8 := match Code.unhex2 (two s at_) with
 | some [z] => some z
 | _ => none
theorem unhex2_cases (l : List UInt8) : Code.unhex2 l = none ∨ Code.unhex2 l = some [] ∨ ∃ z, Code.unhex2 l = some [z] := by
 match l with
 | [] => exact .inr (.inl rfl)
 | [_] => exact .inl rfl
 | [a, b] =>
  simp only [Code.unhex2]
  split
  ·exact .inr (.inr ⟨_, rfl⟩)
  ·exact .inl rfl
 | _ :: _ :: _ :: _ => exact .inl rfl
def signs10 : List UInt8 := [32, 35, 61, 34, 43, 44, 59, 60, 62, 92]
def signAt (nm : Bool) (s : ByteArray) (a : Nat) : Option (UInt8 × Nat) :=
 if h : a < s.size then
  if nm && signs10.contains s[a] then some (s[a], a + 1) else (digitAt s a).map fun z => (z, a + 2)
 else (digitAt s a).map fun z => (z, a + 2)
def signs3 : List UInt8 := [42, 40, 41]
def signs6 : List UInt8 := [34, 43, 44, 59, 60, 62]
def barB (nm : Bool) (n k : Nat) (b : UInt8) : Bool := if nm then (k == 0 && first2.contains b) || (k + 1 == n && b == 32) || signs6.contains b else signs3.contains b
def readR (nm : Bool) (s : ByteArray) : Nat → Nat → List UInt8 → Option (List UInt8)
 | 0, _, l => some l
 | f + 1, k, l => if h : k < s.size then
   (if s[k] == 92 then (match signAt nm s (k + 1) with
    | some (z, a) => readR nm s f a (l ++ [z])
    | none => none)
   else if barB nm s.size k s[k] then none else readR nm s f (k + 1) (l ++ [s[k]]))
  else some l
def readL (nm : Bool) (s : ByteArray) : Option (List UInt8) := if !(Utf.utfB s) || s.data.toList.contains 0 then none else readR nm s s.size 0 []
end Go.Proofs.YtiafggoaedifdaaGreatDoor.Esc
/- Which texts are types of names: plain functions. No program. -/
namespace Go.Proofs.YtiafggoaedifdaaGreatDoor.Txt
open Go Go.Lib
def splitOn (c : UInt8) : List UInt8 → List (List UInt8)
 | [] => [[]]
 | x :: t => if x = c then [] :: splitOn c t else match splitOn c t with
  | [] => [[x]]
  | h :: r => (x :: h) :: r
theorem splitOn_ne (c : UInt8) (l : List UInt8) : splitOn c l ≠ [] := by
 cases l with
 | nil => simp [splitOn]
 | cons x t =>
  unfold splitOn
  split
  ·simp
  ·split <;> simp
theorem index_cons (c x : UInt8) (t : List UInt8) : index (x :: t) [c] = if x = c then 0 else if index t [c] = -1 then -1 else index t [c] + 1 := by
 rw [index_one, index_one]
 show (if (x == c) = true then _ else _) = _
 simp only [beq_iff_eq]
theorem splitK_one (c : UInt8) : ∀ l : List UInt8, splitK [c] 0 (l.count c) l = splitOn c l
 | [] => rfl
 | x :: t => by
  have ih := splitK_one c t
  have hg := index_ge t [c]
  by_cases hx : x = c
  ·subst hx
   rw [List.count_cons_self]
   unfold splitOn splitK
   rw [index_cons, if_pos rfl, if_pos rfl]
   simpa using ih
  ·rw [List.count_cons_of_ne (by simpa using hx)]
   unfold splitOn
   rw [if_neg hx]
   rw [← ih]
   cases hc : t.count c with
   | zero => rfl
   | succ k =>
    unfold splitK
    rw [index_cons, if_neg hx]
    by_cases hi : index t [c] = -1
    ·simp [hi]
    ·have h1 : ¬ (index t [c] + 1 == -1) = true := fun e => by have := beq_iff_eq.1 e; omega
     have h2 : ¬ (index t [c] == -1) = true := fun e => hi (beq_iff_eq.1 e)
     rw [if_neg hi, if_neg h1, if_neg h2]
     have e1 : (index t [c] + 1).toNat = (index t [c]).toNat + 1 := by omega
     simp only [e1, List.length_singleton, Nat.add_zero, List.take_succ_cons]
     rw [show (index t [c]).toNat + 1 + 1 = ((index t [c]).toNat + 1) + 1 from rfl, List.drop_succ_cons]
theorem split_one (s : ByteArray) (c : UInt8) : (splitB ⟨#[c]⟩ 0 (countB s ⟨#[c]⟩) s).map (·.data.toList) = splitOn c s.data.toList ∧ (splitB ⟨#[c]⟩ 0 (countB s ⟨#[c]⟩) s).length = countB s ⟨#[c]⟩ + 1 := by
 refine ⟨?_, splitB_all ⟨#[c]⟩ (Nat.le_refl 1) 0 _ s rfl⟩
 rw [splitB_data]
 have : countB s ⟨#[c]⟩ = s.data.toList.count c := count_one c s.data.toList
 rw [this]
 exact splitK_one c _
theorem index_mem (c : UInt8) : ∀ l : List UInt8, decide (0 ≤ indexByte l c) = l.contains c
 | [] => rfl
 | x :: t => by
  have ih := index_mem c t
  have hg := indexByte_ge t c
  unfold indexByte
  by_cases hx : x = c
  ·subst hx; simp
  ·rw [List.contains_cons, ← ih]
   have hx2 : (c == x) = false := by simp [Ne.symm hx]
   have hx3 : (x == c) = false := by simp [hx]
   rw [hx2, hx3]
   by_cases h1 : indexByte t c = -1
   ·simp [h1]
   ·have : (indexByte t c == -1) = false := by simp [h1]
    rw [this]
    simp only [Bool.false_eq_true, if_false, Bool.false_or, decide_eq_decide]
    omega
end Go.Proofs.YtiafggoaedifdaaGreatDoor.Txt
namespace Go.Proofs.YtiafggoaedifdaaGreatDoor.Dn
set_option linter.unusedVariables false
def letter (c : UInt8) : Bool := (decide (97 ≤ c.toNat) && decide (c.toNat ≤ 122)) || (decide (65 ≤ c.toNat) && decide (c.toNat ≤ 90))
def digit (c : UInt8) : Bool := decide (48 ≤ c.toNat) && decide (c.toNat ≤ 57)
def keyRest (c : UInt8) : Bool := letter c || digit c || decide (c.toNat = 45)
def keyB : List UInt8 → Bool
 | [] => false
 | c :: t => letter c && t.all keyRest
def numB (l : List UInt8) : Bool := !l.isEmpty && (l.all digit && (decide (l = [48]) || decide (l.head? ≠ some 48)))
def typeB (l : List UInt8) : Bool := decide (l.length ≤ 20) && (keyB l || (l.contains 46 && (Txt.splitOn 46 l).all numB))
theorem keyB_snoc (l : List UInt8) (h : l ≠ []) (c : UInt8) : keyB (l ++ [c]) = (keyB l && keyRest c) := by
 cases l with
 | nil => exact absurd rfl h
 | cons x t => simp [keyB, Bool.and_assoc]
theorem keyB_false (l r : List UInt8) (h : l ≠ []) (hk : keyB l = false) : keyB (l ++ r) = false := by
 cases l with
 | nil => exact absurd rfl h
 | cons x t =>
  simp only [keyB, Bool.and_eq_false_iff, List.cons_append, List.all_append] at hk ⊢
  rcases hk with h | h
  ·exact .inl h
  ·exact .inr (.inl h)
end Go.Proofs.YtiafggoaedifdaaGreatDoor.Dn
/- plain: texts of ASCII are right; two digits are a byte. -/
namespace Go.Proofs.YtiafggoaedifdaaGreatDoor.Dn
open Go.Lib
set_option linter.unusedVariables false
theorem utfR_ascii (s : ByteArray) (h : ∀ b ∈ s.data.toList, b.toNat < 128) : ∀ f pos, Utf.utfR s f pos = true
 | 0, _ => rfl
 | f + 1, pos => by
  rw [Utf.utfR]
  by_cases hp : pos < s.size
  ·have hb : s[pos].toNat < 128 := h _ (by
    have : s.data.toList[pos]? = some s[pos] := by
     rw [Array.getElem?_toList]
     exact Array.getElem?_eq_getElem hp
    exact List.mem_of_getElem? this)
   rw [if_pos hp, decode_ascii s pos hp hb]
   have hn : (s[pos].toNat == 65533) = false := by rw [beq_eq_false_iff_ne]; omega
   simp only [hn, Bool.false_and, Bool.false_eq_true, if_false]
   exact utfR_ascii s h f _
  ·rw [if_neg hp]
theorem utf_ascii (s : ByteArray) (h : ∀ b ∈ s.data.toList, b.toNat < 128) : Utf.utfB s = true := utfR_ascii s h _ _
theorem hex_plain : ∀ m : Fin 16, Esc.plainB (Code.hexD m.1) = true := by decide
set_option maxRecDepth 100000 in
theorem unhex_hex : ∀ b : UInt8, Code.unhex2 (Code.hexB b) = some [b] := by
 have all : ∀ m : Fin 256, Code.unhex2 (Code.hexB (UInt8.ofNat m.1)) = some [UInt8.ofNat m.1] := by decide
 intro b
 have := all ⟨b.toNat, b.toNat_lt⟩
 simpa using this
theorem at_drop (s : ByteArray) (p : Nat) (b : UInt8) (t : List UInt8) (h : s.data.toList.drop p = b :: t) : ∃ hp : p < s.size, s[p] = b ∧ s.data.toList.drop (p + 1) = t := by
 have hp : p < s.size := by
  rcases Nat.lt_or_ge p s.size with h1 | h1
  ·exact h1
  ·rw [List.drop_eq_nil_of_le (by rw [Txt.size_list]; omega)] at h; cases h
 rw [Txt.drop_cons s p hp] at h
 injection h with h1 h2
 exact ⟨hp, h1, h2⟩
end Go.Proofs.YtiafggoaedifdaaGreatDoor.Dn
/- filt, plain: a value as it is printed in a filter, and read again. No program. -/
namespace Go.Proofs.YtiafggoaedifdaaGreatDoor.Fl
open Go.Lib
set_option linter.unusedVariables false
def filR (_ : Nat) (b : UInt8) : Bool × Bool := (false, !Esc.plainB b || ([92, 42, 40, 41] : List UInt8).contains b)
def escB (b : UInt8) : List UInt8 := if (filR 0 b).2 then 92 :: Code.hexB b else [b]
def escF (v : List UInt8) : List UInt8 := v.flatMap escB
theorem out_flat : ∀ (v : List UInt8) (k : Nat), Esc.outF filR k v = escF v
 | [], _ => rfl
 | b :: t, k => by
  rw [Esc.outF, out_flat t (k + 1)]
  show _ = escB b ++ escF t
  congr 1
  unfold Esc.outB escB
  have : filR k b = filR 0 b := rfl
  rw [this]
  have h1 : (filR 0 b).1 = false := rfl
  cases h : (filR 0 b).2 <;> simp [h1]
structure Prints (g : UInt8 → List UInt8) : Prop where
 way : ∀ b, g b = 92 :: Code.hexB b ∨ (g b = [b] ∧ b ≠ 92 ∧ Esc.signs3.contains b = false ∧ Esc.plainB b = true)
theorem Prints.esc : Prints escB := ⟨fun b => by
 unfold escB
 cases h : (filR 0 b).2
 ·refine .inr ⟨rfl, ?_⟩
  unfold filR at h
  rw [Bool.or_eq_false_iff, Bool.not_eq_false'] at h
  obtain ⟨h1, h2⟩ := h
  simp at h2
  refine ⟨h2.1, ?_, h1⟩
  unfold Esc.signs3
  simp [h2.2]
 ·exact .inl rfl⟩
theorem Prints.hex : Prints (fun b => 92 :: Code.hexB b) := ⟨fun b => .inl rfl⟩
theorem drop_two (s : ByteArray) (p : Nat) (x y : UInt8) (t : List UInt8) (h : s.data.toList.drop p = x :: y :: t) : Esc.two s p = [x, y] ∧ p + 2 ≤ s.size ∧ s.data.toList.drop (p + 2) = t := by
 obtain ⟨h1, h2, h3⟩ := Dn.at_drop s p x _ h
 obtain ⟨h4, h5, h6⟩ := Dn.at_drop s (p + 1) y _ h3
 refine ⟨?_, by omega, h6⟩
 unfold Esc.two
 rw [h]; rfl
theorem flat_ge {g : UInt8 → List UInt8} (hg : Prints g) : ∀ v : List UInt8, v.length ≤ (v.flatMap g).length
 | [] => Nat.le_refl _
 | b :: t => by
  have := flat_ge hg t
  rw [List.flatMap_cons, List.length_append, List.length_cons]
  rcases hg.way b with h | ⟨h, _⟩
  ·rw [h, List.length_cons]; omega
  ·rw [h, List.length_singleton]; omega
theorem read_flat {g : UInt8 → List UInt8} (hg : Prints g) (s : ByteArray) : ∀ (v2 v1 : List UInt8) (p f : Nat), v2.length ≤ f → s.data.toList.drop p = v2.flatMap g → Esc.readR false s f p v1 = some (v1 ++ v2)
 | [], v1, p, f, _, h => by
  have hp : ¬ p < s.size := by
   intro hp
   rw [Txt.drop_cons s p hp] at h
   cases h
  cases f with
  | zero => rw [Esc.readR]; simp
  | succ f => rw [Esc.readR, dif_neg hp]; simp
 | b :: t, v1, p, 0, hf, _ => by simp at hf
 | b :: t, v1, p, f + 1, hf, h => by
  have hf' : t.length ≤ f := by simpa using hf
  rw [List.flatMap_cons] at h
  rcases hg.way b with e | ⟨e, h92, h3, _⟩
  ·rw [e] at h
   obtain ⟨hp, h1, h2⟩ := Dn.at_drop s p 92 _ h
   obtain ⟨h4, h5, h6⟩ := drop_two s (p + 1) _ _ _ h2
   have hd : Esc.digitAt s (p + 1) = some b := by
    unfold Esc.digitAt
    rw [h4]
    have := Dn.unhex_hex b
    show (match Code.unhex2 (Code.hexB b) with | some [z] => some z | _ => none) = _
    rw [this]
   rw [Esc.readR, dif_pos hp, h1]
   have hs : Esc.signAt false s (p + 1) = some (b, p + 3) := by
    unfold Esc.signAt
    simp [hd]
   rw [hs]
   simp only [beq_self_eq_true, if_true]
   rw [read_flat hg s t (v1 ++ [b]) (p + 3) f hf' h6]
   simp
  ·rw [e] at h
   obtain ⟨hp, h1, h2⟩ := Dn.at_drop s p b _ h
   have hb : Esc.barB false s.size p b = false := by unfold Esc.barB; rw [if_neg (by decide)]; exact h3
   have h9 : (b == 92) = false := by simpa using h92
   rw [Esc.readR, dif_pos hp, h1, h9, if_neg (by decide), hb, if_neg (by decide), read_flat hg s t (v1 ++ [b]) (p + 1) f hf' h2]
   simp
theorem flat_plain {g : UInt8 → List UInt8} (hg : Prints g) : ∀ v : List UInt8, ∀ b ∈ v.flatMap g, Esc.plainB b = true := fun v b hb => by
 obtain ⟨x, _, hx⟩ := List.mem_flatMap.1 hb
 rcases hg.way x with e | ⟨e, _, _, h⟩
 ·rw [e] at hx
  have h1 := Dn.hex_plain ⟨x.toNat / 16, by have := x.toNat_lt; omega⟩
  have h2 := Dn.hex_plain ⟨x.toNat % 16, Nat.mod_lt _ (by decide)⟩
  dsimp only at h1 h2
  simp only [Code.hexB, List.mem_cons, List.not_mem_nil, or_false] at hx
  rcases hx with rfl | rfl | rfl
  ·decide
  ·exact h1
  ·exact h2
 ·rw [e, List.mem_singleton] at hx
  rw [hx]; exact h
theorem read_back {g : UInt8 → List UInt8} (hg : Prints g) (v : List UInt8) : Esc.readL false ⟨(v.flatMap g).toArray⟩ = some v := by
 have hall : ∀ b ∈ v.flatMap g, 32 ≤ b.toNat ∧ b.toNat ≤ 126 := fun b hb => by simpa [Esc.plainB] using flat_plain hg v b hb
 have hu := Dn.utf_ascii ⟨(v.flatMap g).toArray⟩ (fun b hb => by have := (hall b hb).2; omega)
 have hz : (v.flatMap g).contains 0 = false := by
  cases h : (v.flatMap g).contains 0 with
  | false => rfl
  | true => have := (hall 0 (List.contains_iff_mem.1 h)).1; simp at this
 unfold Esc.readL
 rw [hu]
 show (if (!true || (v.flatMap g).contains 0) = true then none else _) = _
 rw [hz, if_neg (by decide)]
 exact read_flat hg _ v [] 0 _ (by rw [Txt.size_mk]; exact flat_ge hg v) rfl
theorem flat_signs {g : UInt8 → List UInt8} (hg : Prints g) (v : List UInt8) : ∀ b ∈ v.flatMap g, b ≠ 42 ∧ b ≠ 40 ∧ b ≠ 41 := fun b hb => by
 obtain ⟨x, _, hx⟩ := List.mem_flatMap.1 hb
 rcases hg.way x with e | ⟨e, _, h3, _⟩
 ·have hd : ∀ m : Fin 16, Code.hexD m.1 ≠ 42 ∧ Code.hexD m.1 ≠ 40 ∧ Code.hexD m.1 ≠ 41 := by decide
  have h1 := hd ⟨x.toNat / 16, by have := x.toNat_lt; omega⟩
  have h2 := hd ⟨x.toNat % 16, Nat.mod_lt _ (by decide)⟩
  dsimp only at h1 h2
  rw [e] at hx
  simp only [Code.hexB, List.mem_cons, List.not_mem_nil, or_false] at hx
  rcases hx with rfl | rfl | rfl
  ·decide
  ·exact h1
  ·exact h2
 ·rw [e, List.mem_singleton] at hx
  subst hx
  unfold Esc.signs3 at h3
  simpa using h3
theorem hex_len (v : List UInt8) : (v.flatMap fun b => 92 :: Code.hexB b).length = 3 * v.length := by
 induction v with
 | nil => rfl
 | cons b t ih => rw [List.flatMap_cons, List.length_append, ih, List.length_cons]; simp [Code.hexB]; omega
theorem esc_len (v : List UInt8) : (escF v).length ≤ 3 * v.length := by
 induction v with
 | nil => exact Nat.le_refl _
 | cons b t ih =>
  show (escB b ++ escF t).length ≤ _
  have : (escB b).length ≤ 3 := by unfold escB; split <;> simp [Code.hexB]
  rw [List.length_append, List.length_cons]; omega
end Go.Proofs.YtiafggoaedifdaaGreatDoor.Fl
/- plain: texts cut at a sign; the bytes of a type; all or none. -/
namespace Go.Proofs.YtiafggoaedifdaaGreatDoor.Dn
open Go.Lib
set_option linter.unusedVariables false
theorem index_here (c : UInt8) (y : List UInt8) : ∀ x : List UInt8, c ∉ x → index (x ++ c :: y) [c] = (x.length : Int)
 | [], _ => by rw [List.nil_append, Txt.index_cons, if_pos rfl]; rfl
 | b :: t, h => by
  have h1 : b ≠ c := fun e => h (by simp [e])
  have h2 : c ∉ t := fun e => h (by simp [e])
  rw [List.cons_append, Txt.index_cons, if_neg h1, index_here c y t h2, if_neg (by omega), List.length_cons]
  omega
theorem cut_here (c : UInt8) (x y : List UInt8) (h : c ∉ x) : Lib.cut (x ++ c :: y) [c] = (x, y, true) := by
 unfold Lib.cut
 rw [index_here c y x h, if_pos (by omega)]
 have e : ((x.length : Int)).toNat = x.length := by omega
 rw [e, List.length_singleton, List.take_left' rfl]
 have : List.drop (x.length + 1) (x ++ c :: y) = y := by
  rw [List.drop_append, List.drop_eq_nil_of_le (by omega), show x.length + 1 - x.length = 1 by omega]; rfl
 rw [this]
def typeByte (b : UInt8) : Bool := letter b || digit b || decide (b.toNat = 45) || decide (b.toNat = 46)
theorem split_bytes (c : UInt8) (P : UInt8 → Bool) : ∀ l : List UInt8, (∀ z ∈ Txt.splitOn c l, z.all P = true) → ∀ b ∈ l, b = c ∨ P b = true
 | [], _, b, hb => by cases hb
 | x :: t, h, b, hb => by
  rw [Txt.splitOn] at h
  by_cases hx : x = c
  ·rw [if_pos hx] at h
   rcases List.mem_cons.1 hb with rfl | hb
   ·exact .inl hx
   ·exact split_bytes c P t (fun z hz => h z (by simp [hz])) b hb
  ·rw [if_neg hx] at h
   cases hs : Txt.splitOn c t with
   | nil => exact absurd hs (Txt.splitOn_ne c t)
   | cons z r =>
    rw [hs] at h
    have h1 := h (x :: z) (by simp)
    simp only [List.all_cons, Bool.and_eq_true] at h1
    rcases List.mem_cons.1 hb with rfl | hb
    ·exact .inr h1.1
    ·refine split_bytes c P t (fun q hq => ?_) b hb
     rw [hs] at hq
     rcases List.mem_cons.1 hq with rfl | hq
     ·exact h1.2
     ·exact h q (by simp [hq])
theorem type_bytes (l : List UInt8) (h : typeB l = true) : ∀ b ∈ l, typeByte b = true := by
 unfold typeB at h
 simp only [Bool.and_eq_true, Bool.or_eq_true] at h
 rcases h.2 with h1 | h1
 ·intro b hb
  cases l with
  | nil => cases hb
  | cons c t =>
   simp only [keyB, Bool.and_eq_true] at h1
   rcases List.mem_cons.1 hb with rfl | hb
   ·simp [typeByte, h1.1]
   ·have := List.all_eq_true.1 h1.2 b hb
    simp only [keyRest, Bool.or_eq_true] at this
    simp only [typeByte, Bool.or_eq_true]
    exact .inl this
 ·intro b hb
  have := split_bytes 46 digit l (fun z hz => by
   have := List.all_eq_true.1 h1.2 z hz
   unfold numB at this
   simp only [Bool.and_eq_true] at this
   exact this.2.1) b hb
  rcases this with rfl | h2
  ·decide
  ·simp [typeByte, h2]
theorem typeByte_ne (b : UInt8) (h : typeByte b = true) : b ≠ 92 ∧ b ≠ 61 ∧ b ≠ 44 ∧ b ≠ 43 := by
 refine ⟨?_, ?_, ?_, ?_⟩ <;> (rintro rfl; exact absurd h (by decide))
def allM {α β : Type} (f : α → Option β) : List α → Option (List β)
 | [] => some []
 | a :: t => match f a with
  | none => none
  | some b => (allM f t).map (b :: ·)
theorem allM_map {α β : Type} (f : α → Option β) (g : β → α) : ∀ l : List β, (∀ b ∈ l, f (g b) = some b) → allM f (l.map g) = some l
 | [], _ => rfl
 | b :: t, h => by
  rw [List.map_cons, allM, h b (by simp), allM_map f g t (fun x hx => h x (by simp [hx]))]
  rfl
end Go.Proofs.YtiafggoaedifdaaGreatDoor.Dn
/- filt, plain: filters, which are right, their texts, and filters of texts; what is printed, read, is that. No program. -/
namespace Go.Proofs.YtiafggoaedifdaaGreatDoor.Fl
open Go.Lib
set_option linter.unusedVariables false
inductive Flt where
 | mk (kind : Int) (name value : ByteArray) (any : List ByteArray) (final : ByteArray) (l : List Flt)
def Flt.kind : Flt → Int | .mk k _ _ _ _ _ => k
def Flt.name : Flt → ByteArray | .mk _ n _ _ _ _ => n
def Flt.value : Flt → ByteArray | .mk _ _ v _ _ _ => v
def Flt.any : Flt → List ByteArray | .mk _ _ _ a _ _ => a
def Flt.final : Flt → ByteArray | .mk _ _ _ _ f _ => f
def Flt.l : Flt → List Flt | .mk _ _ _ _ _ l => l
abbrev bl (s : ByteArray) : List UInt8 := s.data.toList
def optB (s : List UInt8) : Bool := !s.isEmpty && s.all Dn.keyRest
def nameB (s : List UInt8) : Bool := decide (s.length ≤ 30) && (match Txt.splitOn 59 s with
 | [] => false
 | t :: r => Dn.typeB t && r.all optB)
def bareB (v : ByteArray) (a : List ByteArray) (f : ByteArray) : Bool := decide (v.size = 0) && (a.isEmpty && decide (f.size = 0))
def shortB (s : ByteArray) : Bool := decide (s.size ≤ 60)
def namedB (n v : ByteArray) (a : List ByteArray) (f : ByteArray) (l : List Flt) : Bool := nameB (bl n) && (l.isEmpty && (shortB v && (shortB f && a.all shortB)))
def oneB : Flt → Bool
 | .mk k n v a f l =>
  if k = 0 ∨ k = 1 ∨ k = 2 then decide (n.size = 0) && (bareB v a f && (decide (1 ≤ l.length) && (decide (l.length ≤ 8) && decide (k = 2 → l.length ≤ 1))))
  else if k = 7 then namedB n v a f l && bareB v a f
  else if k = 4 then namedB n v a f l && (!bareB v a f && (decide (a.length ≤ 4) && a.all fun s => decide (s.size ≠ 0)))
  else if k = 3 ∨ k = 5 ∨ k = 6 ∨ k = 8 then namedB n v a f l && (a.isEmpty && decide (f.size = 0))
  else false
mutual
def rightF : Nat → Flt → Bool
 | d, .mk k n v a f l => decide (d ≤ 6) && (oneB (.mk k n v a f l) && rightFs (d + 1) l)
def rightFs : Nat → List Flt → Bool
 | _, [] => true
 | d, x :: r => rightF d x && rightFs d r
end
def signB (k : Int) : List UInt8 := if k = 0 then [38] else if k = 1 then [124] else if k = 2 then [33] else if k = 3 then [61] else if k = 5 then [62, 61] else if k = 6 then [60, 61] else if k = 8 then [126, 61] else []
def midB (k : Int) (v : ByteArray) (a : List ByteArray) (f : ByteArray) : List UInt8 :=
 if k = 7 then [61, 42] else if k = 4 then 61 :: ((v :: a).flatMap fun s => escF (bl s) ++ [42]) ++ escF (bl f) else signB k ++ escF (bl v)
mutual
def prF : Flt → List UInt8
 | .mk k n v a f l => 40 :: (bl n ++ midB k v a f ++ prFs l ++ [41])
def prFs : List Flt → List UInt8
 | [] => []
 | x :: r => prF x ++ prFs r
end
def cutL (c : UInt8) : List UInt8 → Option (List UInt8 × List UInt8)
 | [] => none
 | x :: t => if x = c then some ([], t) else (cutL c t).map fun p => (x :: p.1, p.2)
def bt' (l : List UInt8) : ByteArray := ⟨l.toArray⟩
def readV (s : List UInt8) : Option ByteArray := (Esc.readL false (bt' s)).map bt'
def endK (name : List UInt8) : Int × List UInt8 :=
 if name.getLast? = some 62 then (5, name.dropLast) else if name.getLast? = some 60 then (6, name.dropLast) else if name.getLast? = some 126 then (8, name.dropLast) else (3, name)
def itemF (s : List UInt8) : Option Flt := match cutL 61 s with
 | none => none
 | some (name, value) =>
  if (endK name).1 = 3 ∧ value.contains 42 = true then
   (if value = [42] then some (.mk 7 (bt' name) (bt' []) [] (bt' []) [])
   else match Dn.allM readV (Txt.splitOn 42 value) with
    | some (x :: r) => some (.mk 4 (bt' name) x r.dropLast (r.getLast?.getD (bt' [])) [])
    | _ => none)
  else (readV value).map fun w => .mk (endK name).1 (bt' (endK name).2) w [] (bt' []) []
def loopL (rd : List UInt8 → Option (Flt × List UInt8)) : Nat → List UInt8 → Option (List Flt × List UInt8)
 | 0, r => some ([], r)
 | f + 1, r => match r with
  | 40 :: _ => match rd r with
   | some (x, r') => (loopL rd f r').map fun p => (x :: p.1, p.2)
   | none => none
  | _ => some ([], r)
def setK (rd : List UInt8 → Option (Flt × List UInt8)) (k : Int) (r : List UInt8) : Option (Flt × List UInt8) := match loopL rd r.length r with
 | some (l, 41 :: t) => some (.mk k (bt' []) (bt' []) [] (bt' []) l, t)
 | _ => none
def rdF : Nat → List UInt8 → Option (Flt × List UInt8)
 | 0, _ => none
 | d + 1, r => match r with
  | 40 :: r => match r with
   | 38 :: r => setK (rdF d) 0 r
   | 124 :: r => setK (rdF d) 1 r
   | 33 :: r => setK (rdF d) 2 r
   | r => match cutL 41 r with
    | some (s, t) => (itemF s).map fun f => (f, t)
    | none => none
  | _ => none
def parsedF (s : List UInt8) : Option Flt := match rdF 6 s with
 | some (f, []) => if rightF 1 f then some f else none
 | _ => none
theorem cutL_here (c : UInt8) (y : List UInt8) : ∀ x : List UInt8, c ∉ x → cutL c (x ++ c :: y) = some (x, y)
 | [], _ => by rw [List.nil_append, cutL, if_pos rfl]
 | b :: t, h => by
  have h1 : b ≠ c := fun e => h (by simp [e])
  have h2 : c ∉ t := fun e => h (by simp [e])
  rw [List.cons_append, cutL, if_neg h1, cutL_here c y t h2]; rfl
theorem split_none (c : UInt8) : ∀ x : List UInt8, c ∉ x → Txt.splitOn c x = [x]
 | [], _ => rfl
 | b :: t, h => by
  have h1 : b ≠ c := fun e => h (by simp [e])
  rw [Txt.splitOn, if_neg h1, split_none c t (fun e => h (by simp [e]))]
theorem split_here (c : UInt8) (y : List UInt8) : ∀ x : List UInt8, c ∉ x → Txt.splitOn c (x ++ c :: y) = x :: Txt.splitOn c y
 | [], _ => by rw [List.nil_append, Txt.splitOn, if_pos rfl]
 | b :: t, h => by
  have h1 : b ≠ c := fun e => h (by simp [e])
  rw [List.cons_append, Txt.splitOn, if_neg h1, split_here c y t (fun e => h (by simp [e]))]
theorem bl_bt (s : ByteArray) : bt' (bl s) = s := rfl
theorem bl_of (l : List UInt8) : bl (bt' l) = l := by simp [bl, bt']
theorem size_bl (s : ByteArray) : (bl s).length = s.size := Txt.size_list s
theorem size_zero {s : ByteArray} (h : s.size = 0) : s = bt' [] := ByteArray.ext (Array.eq_empty_of_size_eq_zero h)
theorem bl_zero {s : ByteArray} (h : s.size = 0) : bl s = [] := by rw [size_zero h]; rfl
theorem readV_esc (s : ByteArray) : readV (escF (bl s)) = some s := by
 unfold readV
 rw [show bt' (escF (bl s)) = ⟨((bl s).flatMap escB).toArray⟩ from rfl, read_back Prints.esc]; rfl
def nameByte (b : UInt8) : Bool := Dn.typeByte b || decide (b.toNat = 59)
theorem split_mem (c : UInt8) : ∀ l : List UInt8, ∀ b ∈ l, b = c ∨ ∃ z ∈ Txt.splitOn c l, b ∈ z
 | [], b, h => by cases h
 | x :: t, b, h => by
  rw [Txt.splitOn]
  by_cases hx : x = c
  ·rw [if_pos hx]
   rcases List.mem_cons.1 h with rfl | h
   ·exact .inl hx
   ·rcases split_mem c t b h with h | ⟨z, h1, h2⟩
    ·exact .inl h
    ·exact .inr ⟨z, by simp [h1], h2⟩
  ·rw [if_neg hx]
   cases hs : Txt.splitOn c t with
   | nil => exact absurd hs (Txt.splitOn_ne c t)
   | cons a r =>
    rcases List.mem_cons.1 h with rfl | h
    ·exact .inr ⟨b :: a, by simp, by simp⟩
    ·rcases split_mem c t b h with h | ⟨z, h1, h2⟩
     ·exact .inl h
     ·rw [hs] at h1
      rcases List.mem_cons.1 h1 with rfl | h1
      ·exact .inr ⟨x :: z, by simp, by simp [h2]⟩
      ·exact .inr ⟨z, by simp [h1], h2⟩
theorem name_bytes {l : List UInt8} (h : nameB l = true) : ∀ b ∈ l, nameByte b = true := fun b hb => by
 unfold nameB at h
 rw [Bool.and_eq_true] at h
 have h2 := h.2
 split at h2
 ·cases h2
 ·rename_i t r hs
  rw [Bool.and_eq_true] at h2
  unfold nameByte
  rcases split_mem 59 l b hb with rfl | ⟨z, hz, hbz⟩
  ·decide
  ·rw [hs] at hz
   rcases List.mem_cons.1 hz with rfl | hz
   ·rw [Dn.type_bytes z h2.1 b hbz]; rfl
   ·have h3 := List.all_eq_true.1 h2.2 z hz
    unfold optB at h3
    rw [Bool.and_eq_true] at h3
    have h4 := List.all_eq_true.1 h3.2 b hbz
    unfold Dn.keyRest at h4
    unfold Dn.typeByte
    rw [h4]; rfl
theorem nameByte_ne {b : UInt8} (h : nameByte b = true) : b ≠ 61 ∧ b ≠ 41 ∧ b ≠ 40 ∧ b ≠ 42 ∧ b ≠ 62 ∧ b ≠ 60 ∧ b ≠ 126 ∧ b ≠ 38 ∧ b ≠ 124 ∧ b ≠ 33 := by
 refine ⟨?_, ?_, ?_, ?_, ?_, ?_, ?_, ?_, ?_, ?_⟩ <;> (rintro rfl; revert h; decide)
theorem name_ne {l : List UInt8} (h : nameB l = true) : l ≠ [] := by rintro rfl; revert h; decide
theorem end_name {l : List UInt8} (h : nameB l = true) : endK l = (3, l) := by
 have hb := name_bytes h
 have hl : ∀ c, l.getLast? = some c → nameByte c = true := fun c hc => hb c (List.mem_of_getLast? hc)
 unfold endK
 rw [if_neg (fun e => (nameByte_ne (hl _ e)).2.2.2.2.1 rfl), if_neg (fun e => (nameByte_ne (hl _ e)).2.2.2.2.2.1 rfl), if_neg (fun e => (nameByte_ne (hl _ e)).2.2.2.2.2.2.1 rfl)]
theorem end_sign (l : List UInt8) (c : UInt8) (k : Int) (h : (c = 62 ∧ k = 5) ∨ (c = 60 ∧ k = 6) ∨ (c = 126 ∧ k = 8)) : endK (l ++ [c]) = (k, l) := by
 unfold endK
 rw [List.getLast?_append]
 rcases h with ⟨rfl, rfl⟩ | ⟨rfl, rfl⟩ | ⟨rfl, rfl⟩ <;> simp
end Go.Proofs.YtiafggoaedifdaaGreatDoor.Fl
/- tlv, plain: trees of tags, which are right, their bytes, trees of bytes; what is laid, read, is that; what is read has bytes that are no more. No program. -/
namespace Go.Proofs.YtiafggoaedifdaaGreatDoor.Tl
open Go.Lib
open Fl (bl bt' bl_bt bl_of size_bl)
set_option linter.unusedVariables false
inductive Nd where
 | mk (tag : Int) (data : ByteArray) (kids : List Nd)
def Nd.tag : Nd → Int | .mk t _ _ => t
def Nd.data : Nd → ByteArray | .mk _ d _ => d
def Nd.kids : Nd → List Nd | .mk _ _ k => k
theorem Nd.eta (n : Nd) : n = .mk n.tag n.data n.kids := by cases n; rfl
def be (n : Nat) : List UInt8 :=
 if n < 256 then [UInt8.ofNat n] else if n < 65536 then [UInt8.ofNat (n / 256), UInt8.ofNat (n % 256)] else [UInt8.ofNat (n / 65536), UInt8.ofNat (n / 256 % 256), UInt8.ofNat (n % 256)]
def szL (n : Nat) : List UInt8 := if n < 128 then [UInt8.ofNat n] else UInt8.ofNat (128 + (be n).length) :: be n
def valN : Nat → List UInt8 → Nat
 | a, [] => a
 | a, b :: r => valN (a * 256 + b.toNat) r
def szR : List UInt8 → Except Nat (Nat × List UInt8)
 | [] => .error 10
 | b :: r =>
  if b.toNat < 128 then .ok (b.toNat, r)
  else if b.toNat = 128 ∨ 132 < b.toNat then .error 11
  else if r.length < b.toNat - 128 then .error 10
  else if 16777215 < valN 0 (r.take (b.toNat - 128)) then .error 12
  else .ok (valN 0 (r.take (b.toNat - 128)), r.drop (b.toNat - 128))
theorem u8_nat (n : Nat) (h : n < 256) : (UInt8.ofNat n).toNat = n := by
 rw [UInt8.toNat_ofNat']; omega
theorem be_len (n : Nat) : 1 ≤ (be n).length ∧ (be n).length ≤ 3 := by
 unfold be
 split
 ·simp
 ·split <;> simp
theorem szL_len (n : Nat) : 1 ≤ (szL n).length ∧ (szL n).length ≤ 4 := by
 unfold szL
 have := be_len n
 split
 ·simp
 ·simp; omega
theorem szL_two (n : Nat) : 1 ≤ (szL n).length := (szL_len n).1
theorem val_be (n : Nat) (h : n ≤ 16777215) : valN 0 (be n) = n := by
 unfold be
 split
 ·simp only [valN]; rw [u8_nat n (by omega)]; omega
 ·split
  ·simp only [valN]; rw [u8_nat _ (by omega), u8_nat _ (by omega)]; omega
  ·simp only [valN]; rw [u8_nat _ (by omega), u8_nat _ (by omega), u8_nat _ (by omega)]; omega
theorem szR_szL (n : Nat) (h : n ≤ 16777215) (t : List UInt8) : szR (szL n ++ t) = .ok (n, t) := by
 unfold szL
 by_cases h1 : n < 128
 ·rw [if_pos h1, List.singleton_append, szR, u8_nat n (by omega), if_pos h1]
 ·have hb := be_len n
  rw [if_neg h1, List.cons_append, szR, u8_nat _ (by omega), if_neg (by omega), if_neg (by omega), Nat.add_sub_cancel_left, List.length_append, if_neg (by omega), List.take_left', List.drop_left', val_be n h, if_neg (by omega)]
  ·rfl
  ·rfl
theorem val_lt : ∀ (l : List UInt8) (a : Nat), valN a l < (a + 1) * 256 ^ l.length
 | [], a => by simp [valN]
 | b :: r, a => by
  rw [valN]
  have h := val_lt r (a * 256 + b.toNat)
  have hb := b.toNat_lt
  have : (a * 256 + b.toNat + 1) * 256 ^ r.length ≤ ((a + 1) * 256) * 256 ^ r.length := Nat.mul_le_mul_right _ (by omega)
  rw [List.length_cons, Nat.pow_succ, Nat.mul_comm (256 ^ r.length) 256, ← Nat.mul_assoc]
  omega
theorem szR_le {l : List UInt8} {n : Nat} {t : List UInt8} (h : szR l = .ok (n, t)) : n ≤ 16777215 ∧ (szL n).length + t.length ≤ l.length ∧ t.length < l.length ∧ ∃ k, t = l.drop k := by
 cases l with
 | nil => rw [szR] at h; cases h
 | cons b r =>
  rw [szR] at h
  have hb := b.toNat_lt
  split at h
  ·rename_i h1
   cases h
   refine ⟨by omega, ?_, by simp, 1, rfl⟩
   unfold szL
   rw [if_pos h1]
   simp; omega
  ·split at h
   ·cases h
   ·split at h
    ·cases h
    ·split at h
     ·cases h
     ·rename_i h1 h2 h3 h4
      obtain ⟨e1, e2⟩ := Prod.mk.inj (Except.ok.inj h)
      rw [← e1, ← e2]
      clear e1 e2 h
      have hl : (r.take (b.toNat - 128)).length = b.toNat - 128 := by rw [List.length_take]; omega
      have hv := val_lt (r.take (b.toNat - 128)) 0
      rw [hl] at hv
      refine ⟨by omega, ?_, by rw [List.length_drop, List.length_cons]; omega, b.toNat - 128 + 1, by rw [List.drop_succ_cons]⟩
      generalize valN 0 (r.take (b.toNat - 128)) = v at *
      have hbe : (be v).length ≤ b.toNat - 128 := by
       unfold be
       split
       ·simp; omega
       ·rename_i g1
        have k2 : 2 ≤ b.toNat - 128 := by
         rcases Nat.lt_or_ge (b.toNat - 128) 2 with g | g
         ·have : b.toNat - 128 = 1 := by omega
          rw [this] at hv; omega
         ·exact g
        split
        ·simp; omega
        ·rename_i g2
         have k3 : 3 ≤ b.toNat - 128 := by
          rcases Nat.lt_or_ge (b.toNat - 128) 3 with g | g
          ·have : b.toNat - 128 = 2 := by omega
           rw [this] at hv; omega
          ·exact g
         simp; omega
      rw [List.length_drop, List.length_cons]
      unfold szL
      split
      ·simp; omega
      ·simp; omega
def innerN (t : Nat) : Bool := t / 32 % 2 == 1
def oneN : Nd → Bool
 | .mk t d k => decide (0 ≤ t) && (decide (t ≤ 255) && (decide (t.toNat % 32 ≠ 31) && if innerN t.toNat then decide (d.size = 0) else k.isEmpty))
mutual
def preN : Nat → Nd → List (Nat × Nd)
 | d, .mk t x k => (d, .mk t x k) :: preNs (d + 1) k
def preNs : Nat → List Nd → List (Nat × Nd)
 | _, [] => []
 | d, x :: r => preN d x ++ preNs d r
end
def okN (p : Nat × Nd) : Bool := decide (p.1 ≤ 12) && (oneN p.2 && decide (p.2.data.size ≤ 4000))
def shapedN (n : Nd) : Bool := decide ((preN 1 n).length ≤ 200) && (preN 1 n).all okN
mutual
def layN : Nd → List UInt8
 | .mk t d k => UInt8.ofNat t.toNat :: (szL (layNs k ++ bl d).length ++ (layNs k ++ bl d))
def layNs : List Nd → List UInt8
 | [] => []
 | x :: r => layN x ++ layNs r
end
def rightN (n : Nd) : Bool := shapedN n && decide ((layN n).length ≤ 4000)
inductive TE where
 | short
 | tag
 | node
 | len (e : Nat)
def kidsL (rd : Nat → List UInt8 → Except TE (Nd × List UInt8 × Nat)) : Nat → Nat → List UInt8 → Except TE (List Nd × Nat)
 | 0, c, _ => .ok ([], c)
 | f + 1, c, l => match l with
  | [] => .ok ([], c)
  | b :: l => match rd c (b :: l) with
   | .error e => .error e
   | .ok (n, r, c') => match kidsL rd f c' r with
    | .error e => .error e
    | .ok (ns, c'') => .ok (n :: ns, c'')
def hdN (m c : Nat) (l : List UInt8) : Except TE (Nat × List UInt8 × List UInt8) :=
 if 200 < c + 1 then .error .node else if m = 0 then .error .node else match l with
 | [] => .error .short
 | t :: r => if t.toNat % 32 = 31 then .error .tag else match szR r with
  | .error e => .error (.len e)
  | .ok (n, r2) => if r2.length < n then .error .short else .ok (t.toNat, r2.take n, r2.drop n)
def rdN : Nat → Nat → List UInt8 → Except TE (Nd × List UInt8 × Nat)
 | 0, c, l => match hdN 0 c l with
  | .error e => .error e
  | .ok _ => .error .node
 | m + 1, c, l => match hdN (m + 1) c l with
  | .error e => .error e
  | .ok (t, body, rest) =>
   if innerN t then (match kidsL (rdN m) body.length (c + 1) body with
    | .error e => .error e
    | .ok (ks, c') => .ok (.mk t (bt' []) ks, rest, c'))
   else .ok (.mk t (bt' body) [], rest, c + 1)
def decodedN (l : List UInt8) : Except TE (Nd × List UInt8) := match rdN 12 0 l with
 | .error e => .error e
 | .ok (n, r, _) => if rightN n then .ok (n, r) else .error .node
theorem layN_ne (n : Nd) : ∃ b l, layN n = b :: l := by cases n; exact ⟨_, _, rfl⟩
theorem pre_pos (d : Nat) (n : Nd) : 1 ≤ (preN d n).length := by cases n; rw [preN]; simp
mutual
theorem rd_lay : ∀ (m d c : Nat) (n : Nd) (t : List UInt8), d + m = 13 → (preN d n).all okN = true → c + (preN d n).length ≤ 200 → (layN n).length ≤ 16777215 → rdN m c (layN n ++ t) = .ok (n, t, c + (preN d n).length)
 | 0, d, c, .mk tg x k, t, hd, ha, hc, hl => by
  rw [preN, List.all_cons, Bool.and_eq_true] at ha
  have := ha.1
  unfold okN at this
  rw [Bool.and_eq_true] at this
  have := of_decide_eq_true this.1
  dsimp only at this
  omega
 | m + 1, d, c, .mk tg x k, t, hd, ha, hc, hl => by
  rw [preN, List.all_cons, Bool.and_eq_true] at ha
  obtain ⟨h0, hks⟩ := ha
  rw [preN, List.length_cons] at hc
  unfold okN oneN at h0
  simp only [Bool.and_eq_true, decide_eq_true_eq] at h0
  obtain ⟨h1, ⟨h2, h3, h4, h5⟩, h6⟩ := h0
  rw [layN, List.length_cons, List.length_append] at hl
  have htn : tg.toNat < 256 := by omega
  have hhd : hdN (m + 1) c (layN (.mk tg x k) ++ t) = .ok (tg.toNat, layNs k ++ bl x, t) := by
   unfold hdN
   rw [if_neg (by omega), if_neg (by omega), layN, List.cons_append]
   dsimp only
   rw [u8_nat _ htn, if_neg (by omega), List.append_assoc, szR_szL _ (by omega)]
   dsimp only
   rw [List.length_append, if_neg (by omega), List.take_left', List.drop_left']
   ·rfl
   ·rfl
  rw [rdN, hhd]
  dsimp only
  have htt : ((tg.toNat : Nat) : Int) = tg := by omega
  by_cases hi : innerN tg.toNat = true
  ·rw [if_pos hi]
   rw [if_pos hi] at h5
   have hx := Fl.size_zero (of_decide_eq_true h5)
   subst hx
   rw [show bl (bt' []) = [] from rfl, List.append_nil]
   rw [rds_lay m (d + 1) (c + 1) k (layNs k).length (by omega) hks (by omega) (by rw [show bl (bt' []) = [] from rfl, List.append_nil] at hl; omega) (Nat.le_refl _)]
   dsimp only
   rw [htt, preN, List.length_cons, show c + 1 + (preNs (d + 1) k).length = c + ((preNs (d + 1) k).length + 1) by omega]
  ·rw [if_neg hi]
   rw [if_neg hi] at h5
   obtain rfl : k = [] := by simpa using h5
   rw [layNs, List.nil_append, htt, preN, preNs, List.length_singleton]
   rfl
theorem rds_lay : ∀ (m d c : Nat) (l : List Nd) (f : Nat), d + m = 13 → (preNs d l).all okN = true → c + (preNs d l).length ≤ 200 → (layNs l).length ≤ 16777215 → (layNs l).length ≤ f → kidsL (rdN m) f c (layNs l) = .ok (l, c + (preNs d l).length)
 | m, d, c, [], f, _, _, _, _, _ => by
  rw [layNs, preNs]
  cases f <;> rfl
 | m, d, c, x :: r, f, hd, ha, hc, hl, hf => by
  rw [preNs, List.all_append, Bool.and_eq_true] at ha
  rw [preNs, List.length_append] at hc
  rw [layNs, List.length_append] at hl hf
  obtain ⟨b, l', e⟩ := layN_ne x
  have hpos : 1 ≤ (layN x).length := by rw [e]; simp
  cases f with
  | zero => omega
  | succ f =>
   have h1 := rd_lay m d c x (layNs r) hd ha.1 (by omega) (by omega)
   have h2 := rds_lay m d (c + (preN d x).length) r f hd ha.2 (by omega) (by omega) (by omega)
   rw [layNs, preNs, List.length_append]
   rw [e, List.cons_append] at h1 ⊢
   rw [kidsL, h1]
   dsimp only
   rw [h2]
   dsimp only
   rw [Nat.add_assoc]
end
theorem decoded_lay (n : Nd) (t : List UInt8) (h : rightN n = true) : decodedN (layN n ++ t) = .ok (n, t) := by
 have h0 := h
 unfold rightN shapedN at h
 simp only [Bool.and_eq_true, decide_eq_true_eq] at h
 obtain ⟨⟨h1, h2⟩, h3⟩ := h
 unfold decodedN
 rw [rd_lay 12 1 0 n t rfl h2 (by omega) (by omega)]
 dsimp only
 rw [if_pos h0]
end Go.Proofs.YtiafggoaedifdaaGreatDoor.Tl
/- tlv, plain: what is read has bytes that are no more than those it was read of; equality of trees. No program. -/
namespace Go.Proofs.YtiafggoaedifdaaGreatDoor.Tl
open Go.Lib
open Fl (bl bt' bl_bt bl_of size_bl)
set_option linter.unusedVariables false
theorem szL_size (n : Nat) : (szL n).length = if n < 128 then 1 else if n < 256 then 2 else if n < 65536 then 3 else 4 := by
 unfold szL be
 by_cases h1 : n < 128
 ·rw [if_pos h1, if_pos h1]; rfl
 ·rw [if_neg h1, if_neg h1]
  by_cases h2 : n < 256
  ·rw [if_pos h2, if_pos h2]; rfl
  ·rw [if_neg h2, if_neg h2]
   by_cases h3 : n < 65536
   ·rw [if_pos h3, if_pos h3]; rfl
   ·rw [if_neg h3, if_neg h3]; rfl
theorem szL_mono {a b : Nat} (h : a ≤ b) : (szL a).length ≤ (szL b).length := by
 rw [szL_size, szL_size]
 by_cases a1 : a < 128 <;> by_cases a2 : a < 256 <;> by_cases a3 : a < 65536 <;> by_cases b1 : b < 128 <;> by_cases b2 : b < 256 <;> by_cases b3 : b < 65536 <;> simp only [a1, a2, a3, b1, b2, b3, if_true, if_false] <;> omega
theorem hdN_le {m c : Nat} {l : List UInt8} {t : Nat} {body rest : List UInt8} (h : hdN m c l = .ok (t, body, rest)) : 1 + (szL body.length).length + body.length + rest.length ≤ l.length ∧ t < 256 ∧ t % 32 ≠ 31 ∧ c + 1 ≤ 200 ∧ m ≠ 0 := by
 unfold hdN at h
 split at h
 ·cases h
 ·split at h
  ·cases h
  ·rename_i h1 h2
   cases l with
   | nil => cases h
   | cons b r =>
    dsimp only at h
    split at h
    ·cases h
    ·rename_i h3
     cases hs : szR r with
     | error e => rw [hs] at h; cases h
     | ok p =>
      obtain ⟨n, r2⟩ := p
      rw [hs] at h
      dsimp only at h
      split at h
      ·cases h
      ·rename_i h4
       obtain ⟨e1, e2⟩ := Prod.mk.inj (Except.ok.inj h)
       obtain ⟨e3, e4⟩ := Prod.mk.inj e2
       rw [← e1, ← e3, ← e4]
       obtain ⟨g1, g2, g3, _⟩ := szR_le hs
       have hb := b.toNat_lt
       have hl : (r2.take n).length = n := by rw [List.length_take]; omega
       rw [hl, List.length_drop, List.length_cons]
       exact ⟨by omega, by omega, h3, by omega, h2⟩
def leN (l : List UInt8) : Except TE (Nd × List UInt8 × Nat) → Prop
 | .error _ => True
 | .ok (n, r, _) => (layN n).length + r.length ≤ l.length ∧ r.length < l.length
theorem kids_le {rd : Nat → List UInt8 → Except TE (Nd × List UInt8 × Nat)} (hr : ∀ c l, leN l (rd c l)) : ∀ (f c : Nat) (l : List UInt8) (ns : List Nd) (c' : Nat), kidsL rd f c l = .ok (ns, c') → (layNs ns).length ≤ l.length
 | 0, c, l, ns, c', h => by
  rw [kidsL] at h
  cases h
  exact Nat.zero_le _
 | f + 1, c, [], ns, c', h => by
  rw [kidsL] at h
  cases h
  exact Nat.zero_le _
 | f + 1, c, b :: l, ns, c', h => by
  rw [kidsL] at h
  have h0 := hr c (b :: l)
  cases hd : rd c (b :: l) with
  | error e => rw [hd] at h; cases h
  | ok q =>
   obtain ⟨n, r, c1⟩ := q
   rw [hd] at h h0
   dsimp only at h
   cases hk : kidsL rd f c1 r with
   | error e => rw [hk] at h; cases h
   | ok q2 =>
    obtain ⟨ns1, c2⟩ := q2
    rw [hk] at h
    have e := (Prod.mk.inj (Except.ok.inj h)).1
    rw [← e, layNs, List.length_append]
    have h2 := kids_le hr f c1 r ns1 c2 hk
    have h3 := h0.1
    omega
theorem rd_le : ∀ (m c : Nat) (l : List UInt8), leN l (rdN m c l)
 | 0, c, l => by
  rw [rdN]
  cases hdN 0 c l <;> trivial
 | m + 1, c, l => by
  rw [rdN]
  cases hh : hdN (m + 1) c l with
  | error e => trivial
  | ok q =>
   obtain ⟨t, body, rest⟩ := q
   obtain ⟨h1, h2, _⟩ := hdN_le hh
   dsimp only
   split
   ·cases hk : kidsL (rdN m) body.length (c + 1) body with
    | error e => trivial
    | ok q2 =>
     obtain ⟨ks, c'⟩ := q2
     have h3 := kids_le (rd_le m) _ _ _ _ _ hk
     have h4 := szL_mono h3
     dsimp only
     show (layN _).length + _ ≤ _ ∧ _
     rw [layN, show bl (bt' []) = [] from rfl, List.append_nil, List.length_cons, List.length_append]
     omega
   ·show (layN _).length + _ ≤ _ ∧ _
    rw [layN, layNs, List.nil_append, bl_of, List.length_cons, List.length_append]
    omega
theorem decoded_le {l : List UInt8} {n : Nd} {r : List UInt8} (h : decodedN l = .ok (n, r)) : rightN n = true ∧ (layN n).length + r.length ≤ l.length := by
 unfold decodedN at h
 have h0 := rd_le 12 0 l
 cases hd : rdN 12 0 l with
 | error e => rw [hd] at h; cases h
 | ok q =>
  obtain ⟨n1, r1, c1⟩ := q
  rw [hd] at h h0
  dsimp only at h
  split at h
  ·rename_i hr
   obtain ⟨e1, e2⟩ := Prod.mk.inj (Except.ok.inj h)
   rw [← e1, ← e2]
   exact ⟨hr, h0.1⟩
  ·cases h
mutual
theorem pre_depth : ∀ (d d' : Nat) (n : Nd), (preN d n).length = (preN d' n).length
 | d, d', .mk t x k => by rw [preN, preN, List.length_cons, List.length_cons, pres_depth (d + 1) (d' + 1) k]
theorem pres_depth : ∀ (d d' : Nat) (l : List Nd), (preNs d l).length = (preNs d' l).length
 | _, _, [] => rfl
 | d, d', x :: r => by rw [preNs, preNs, List.length_append, List.length_append, pre_depth d d' x, pres_depth d d' r]
end
def cntN (c : Nat) : Except TE (Nd × List UInt8 × Nat) → Prop
 | .error _ => True
 | .ok (n, _, c') => c' = c + (preN 1 n).length ∧ c' ≤ 200
theorem kids_cnt {rd : Nat → List UInt8 → Except TE (Nd × List UInt8 × Nat)} (hr : ∀ c l, cntN c (rd c l)) : ∀ (f c : Nat) (l : List UInt8) (ns : List Nd) (c' : Nat), c ≤ 200 → kidsL rd f c l = .ok (ns, c') → c' = c + (preNs 1 ns).length ∧ c' ≤ 200
 | 0, c, l, ns, c', hc, h => by
  rw [kidsL] at h
  cases h
  exact ⟨rfl, hc⟩
 | f + 1, c, [], ns, c', hc, h => by
  rw [kidsL] at h
  cases h
  exact ⟨rfl, hc⟩
 | f + 1, c, b :: l, ns, c', hc, h => by
  rw [kidsL] at h
  have h0 := hr c (b :: l)
  cases hd : rd c (b :: l) with
  | error e => rw [hd] at h; cases h
  | ok q =>
   obtain ⟨n, r, c1⟩ := q
   rw [hd] at h h0
   dsimp only at h
   obtain ⟨g1, g2⟩ := h0
   cases hk : kidsL rd f c1 r with
   | error e => rw [hk] at h; cases h
   | ok q2 =>
    obtain ⟨ns1, c2⟩ := q2
    rw [hk] at h
    obtain ⟨e1, e2⟩ := Prod.mk.inj (Except.ok.inj h)
    obtain ⟨g3, g4⟩ := kids_cnt hr f c1 r ns1 c2 g2 hk
    rw [← e1, ← e2, preNs, List.length_append]
    exact ⟨by omega, g4⟩
theorem rd_cnt : ∀ (m c : Nat) (l : List UInt8), cntN c (rdN m c l)
 | 0, c, l => by
  rw [rdN]
  cases hdN 0 c l <;> trivial
 | m + 1, c, l => by
  rw [rdN]
  cases hh : hdN (m + 1) c l with
  | error e => trivial
  | ok q =>
   obtain ⟨t, body, rest⟩ := q
   obtain ⟨_, _, _, h2, _⟩ := hdN_le hh
   dsimp only
   split
   ·cases hk : kidsL (rdN m) body.length (c + 1) body with
    | error e => trivial
    | ok q2 =>
     obtain ⟨ks, c'⟩ := q2
     obtain ⟨g1, g2⟩ := kids_cnt (rd_cnt m) _ _ _ _ _ h2 hk
     show _ ∧ _
     rw [preN, List.length_cons, pres_depth (1 + 1) 1]
     exact ⟨by omega, g2⟩
   ·show _ ∧ _
    rw [preN, preNs]
    exact ⟨rfl, h2⟩
theorem decoded_cnt {l : List UInt8} {n : Nd} {r : List UInt8} {c : Nat} (h : rdN 12 0 l = .ok (n, r, c)) : (preN 1 n).length ≤ 200 := by
 have h0 := rd_cnt 12 0 l
 rw [h] at h0
 obtain ⟨h1, h2⟩ := h0
 omega
theorem kids_fuel {rd : Nat → List UInt8 → Except TE (Nd × List UInt8 × Nat)} (hr : ∀ c l, leN l (rd c l)) : ∀ (f g c : Nat) (l : List UInt8), l.length ≤ f → l.length ≤ g → kidsL rd f c l = kidsL rd g c l
 | 0, 0, c, l, _, _ => rfl
 | 0, g + 1, c, l, hf, _ => by
  obtain rfl : l = [] := List.eq_nil_of_length_eq_zero (by omega)
  rfl
 | f + 1, 0, c, l, _, hg => by
  obtain rfl : l = [] := List.eq_nil_of_length_eq_zero (by omega)
  rfl
 | f + 1, g + 1, c, [], _, _ => rfl
 | f + 1, g + 1, c, b :: l, hf, hg => by
  rw [kidsL, kidsL]
  have h0 := hr c (b :: l)
  cases hd : rd c (b :: l) with
  | error e => rfl
  | ok q =>
   obtain ⟨n, r, c1⟩ := q
   rw [hd] at h0
   have h2 := h0.2
   dsimp only
   rw [List.length_cons] at h2 hf hg
   rw [kids_fuel hr f g c1 r (by omega) (by omega)]
mutual
def sameN : Nd → Nd → Bool
 | .mk t d k, .mk t' d' k' => decide (t = t') && (decide (d = d') && sameNs k k')
def sameNs : List Nd → List Nd → Bool
 | [], [] => true
 | x :: r, y :: s => sameN x y && sameNs r s
 | _, _ => false
end
mutual
theorem sameN_iff : ∀ x y : Nd, sameN x y = true ↔ x = y
 | .mk t d k, .mk t' d' k' => by
  rw [sameN]
  simp only [Bool.and_eq_true, decide_eq_true_eq, Nd.mk.injEq]
  rw [sameNs_iff k k']
theorem sameNs_iff : ∀ x y : List Nd, sameNs x y = true ↔ x = y
 | [], [] => by simp [sameNs]
 | x :: r, y :: s => by
  rw [sameNs]
  simp only [Bool.and_eq_true, List.cons.injEq]
  rw [sameN_iff x y, sameNs_iff r s]
 | [], y :: s => by simp [sameNs]
 | x :: r, [] => by simp [sameNs]
end
theorem sameN_refl (x : Nd) : sameN x x = true := (sameN_iff x x).2 rfl
def wholeN (l : List UInt8) : Option Nd := match decodedN l with
 | .ok (n, []) => some n
 | _ => none
theorem whole_lay {n : Nd} (h : rightN n = true) : wholeN (layN n) = some n := by
 have := decoded_lay n [] h
 rw [List.append_nil] at this
 unfold wholeN
 rw [this]
theorem whole_le {l : List UInt8} {n : Nd} (h : wholeN l = some n) : rightN n = true ∧ (layN n).length ≤ l.length := by
 unfold wholeN at h
 split at h
 ·rename_i n1 hd
  cases h
  obtain ⟨h1, h2⟩ := decoded_le hd
  exact ⟨h1, by omega⟩
 ·cases h
end Go.Proofs.YtiafggoaedifdaaGreatDoor.Tl
