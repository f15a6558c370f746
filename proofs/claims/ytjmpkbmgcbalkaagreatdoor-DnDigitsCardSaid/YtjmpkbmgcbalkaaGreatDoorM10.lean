/- Several texts, one behind the other. Plain laws on texts, their runes and bytes. No program. Which texts are types of names: plain functions. No program. Contracts of functions of Go's library, as the kit's shelf proves them of whatever program, at this program's numbers. Each states its own conditions. Contracts of functions of Go's library, as the kit's shelf proves them of whatever program, at this program's numbers. Each states its own conditions. -/
import Derived.Shelf.GgClosure.StringsIndexFunc
import Derived.Laws.RangeAny
import Derived.Lib.OthersKept
import Derived.Lib.Split
import Derived.Lib.SplitLaws
import Derived.Lib.IndexBytes
import Derived.Shelf.Strings.Search3
import Derived.Shelf.Strings.Cut
import Derived.Shelf.Strings.Split
import Derived.Test.YtjmpkbmgcbalkaaGreatDoorProg
import Derived.Shelf.GgClosure.StringsIndexFuncTop
/- Plain laws on texts, their runes and bytes. No program. -/
namespace Go.Proofs.YtjmpkbmgcbalkaaGreatDoor.Txt
open Go
set_option linter.unusedVariables false
theorem bl (s : ByteArray) : s.toList = s.data.toList := ByteArray.toList_eq s
theorem size_list (s : ByteArray) : s.data.toList.length = s.size := by rw [Array.length_toList]; rfl
theorem mk_list (s : ByteArray) : (⟨s.data.toList.toArray⟩ : ByteArray) = s := by simp
theorem size_mk (l : List UInt8) : (⟨l.toArray⟩ : ByteArray).size = l.length := by show l.toArray.size = _; simp
theorem list_mk (l : List UInt8) : (⟨l.toArray⟩ : ByteArray).data.toList = l := rfl
theorem drop_cons (s : ByteArray) (pos : Nat) (h : pos < s.size) : s.data.toList.drop pos = s[pos] :: s.data.toList.drop (pos + 1) := by
  rw [List.drop_eq_getElem_cons (by rw [size_list]; exact h)]; rfl
theorem take_snoc (s : ByteArray) (pos : Nat) (h : pos < s.size) : s.data.toList.take (pos + 1) = s.data.toList.take pos ++ [s[pos]] := by
  rw [List.take_succ_eq_append_getElem (by rw [size_list]; exact h)]; rfl
theorem idx_from (p : Nat → Bool) (hp : ∀ r, 128 ≤ r → p r = true) (s : ByteArray) : ∀ f pos, s.size ≤ pos + f → decide (0 ≤ Lib.idxFuncFrom p true s f pos) = (s.data.toList.drop pos).any (fun c => p c.toNat)
  | 0, pos, h => by
    rw [Lib.idxFuncFrom_end p true s 0 pos (by omega), List.drop_eq_nil_of_le (by rw [size_list]; omega)]; rfl
  | f + 1, pos, h => by
    by_cases hlt : pos < s.size
    · rw [drop_cons s pos hlt, List.any_cons]
      unfold Lib.idxFuncFrom
      rw [if_pos hlt]
      by_cases ha : (s[pos]).toNat < 128
      · rw [decode_ascii s pos hlt ha]
        dsimp only
        by_cases hq : p (s[pos]).toNat = true
        · rw [if_pos hq, hq]; simp
        · rw [if_neg hq, idx_from p hp s f (pos + 1) (by omega)]
          simp [hq]
      · have hh := decode_high s pos hlt (by omega)
        rw [if_pos (hp _ hh.1), hp _ (by omega)]
        simp
    · rw [Lib.idxFuncFrom_end p true s _ pos hlt, List.drop_eq_nil_of_le (by rw [size_list]; omega)]; rfl
theorem idx_any (p : Nat → Bool) (hp : ∀ r, 128 ≤ r → p r = true) (s : ByteArray) : decide (0 ≤ Lib.idxFunc p true s) = s.data.toList.any (fun c => p c.toNat) := by
  unfold Lib.idxFunc
  rw [idx_from p hp s s.size 0 (by omega), List.drop_zero]
end Go.Proofs.YtjmpkbmgcbalkaaGreatDoor.Txt
/- Which texts are types of names: plain functions. No program. -/
namespace Go.Proofs.YtjmpkbmgcbalkaaGreatDoor.Txt
open Go Go.Lib
/-- a text cut at each byte c -/
def splitOn (c : UInt8) : List UInt8 → List (List UInt8)
  | [] => [[]]
  | x :: t => if x = c then [] :: splitOn c t else match splitOn c t with
    | [] => [[x]]
    | h :: r => (x :: h) :: r
theorem splitOn_ne (c : UInt8) (l : List UInt8) : splitOn c l ≠ [] := by
  cases l with
  | nil => simp [splitOn]
  | cons x t =>
    unfold splitOn
    split
    · simp
    · split <;> simp
theorem index_cons (c x : UInt8) (t : List UInt8) : index (x :: t) [c] = if x = c then 0 else if index t [c] = -1 then -1 else index t [c] + 1 := by
  rw [index_one, index_one]
  show (if (x == c) = true then _ else _) = _
  simp only [beq_iff_eq]
theorem splitK_one (c : UInt8) : ∀ l : List UInt8, splitK [c] 0 (l.count c) l = splitOn c l
  | [] => rfl
  | x :: t => by
    have ih := splitK_one c t
    have hg := index_ge t [c]
    by_cases hx : x = c
    · subst hx
      rw [List.count_cons_self]
      unfold splitOn splitK
      rw [index_cons, if_pos rfl, if_pos rfl]
      simpa using ih
    · rw [List.count_cons_of_ne (by simpa using hx)]
      unfold splitOn
      rw [if_neg hx]
      rw [← ih]
      cases hc : t.count c with
      | zero => rfl
      | succ k =>
        unfold splitK
        rw [index_cons, if_neg hx]
        by_cases hi : index t [c] = -1
        · simp [hi]
        · have h1 : ¬ (index t [c] + 1 == -1) = true := fun e => by have := beq_iff_eq.1 e; omega
          have h2 : ¬ (index t [c] == -1) = true := fun e => hi (beq_iff_eq.1 e)
          rw [if_neg hi, if_neg h1, if_neg h2]
          have e1 : (index t [c] + 1).toNat = (index t [c]).toNat + 1 := by omega
          simp only [e1, List.length_singleton, Nat.add_zero, List.take_succ_cons]
          rw [show (index t [c]).toNat + 1 + 1 = ((index t [c]).toNat + 1) + 1 from rfl, List.drop_succ_cons]
theorem split_one (s : ByteArray) (c : UInt8) : (splitB ⟨#[c]⟩ 0 (countB s ⟨#[c]⟩) s).map (·.data.toList) = splitOn c s.data.toList ∧ (splitB ⟨#[c]⟩ 0 (countB s ⟨#[c]⟩) s).length = countB s ⟨#[c]⟩ + 1 := by
  refine ⟨?_, splitB_all ⟨#[c]⟩ (Nat.le_refl 1) 0 _ s rfl⟩
  rw [splitB_data]
  have : countB s ⟨#[c]⟩ = s.data.toList.count c := count_one c s.data.toList
  rw [this]
  exact splitK_one c _
theorem index_mem (c : UInt8) : ∀ l : List UInt8, decide (0 ≤ indexByte l c) = l.contains c
  | [] => rfl
  | x :: t => by
    have ih := index_mem c t
    have hg := indexByte_ge t c
    unfold indexByte
    by_cases hx : x = c
    · subst hx; simp
    · rw [List.contains_cons, ← ih]
      have hx2 : (c == x) = false := by simp [Ne.symm hx]
      have hx3 : (x == c) = false := by simp [hx]
      rw [hx2, hx3]
      by_cases h1 : indexByte t c = -1
      · simp [h1]
      · have : (indexByte t c == -1) = false := by simp [h1]
        rw [this]
        simp only [Bool.false_eq_true, if_false, Bool.false_or, decide_eq_decide]
        omega
end Go.Proofs.YtjmpkbmgcbalkaaGreatDoor.Txt
namespace Go.Proofs.YtjmpkbmgcbalkaaGreatDoor.Dn
set_option linter.unusedVariables false
def letter (c : UInt8) : Bool := (decide (97 ≤ c.toNat) && decide (c.toNat ≤ 122)) || (decide (65 ≤ c.toNat) && decide (c.toNat ≤ 90))
def digit (c : UInt8) : Bool := decide (48 ≤ c.toNat) && decide (c.toNat ≤ 57)
def keyRest (c : UInt8) : Bool := letter c || digit c || decide (c.toNat = 45)
def keyB : List UInt8 → Bool
  | [] => false
  | c :: t => letter c && t.all keyRest
/-- digits, without noughts ahead -/
def numB (l : List UInt8) : Bool := !l.isEmpty && (l.all digit && (decide (l = [48]) || decide (l.head? ≠ some 48)))
def typeB (l : List UInt8) : Bool := decide (l.length ≤ 20) && (keyB l || (l.contains 46 && (Txt.splitOn 46 l).all numB))
theorem keyB_snoc (l : List UInt8) (h : l ≠ []) (c : UInt8) : keyB (l ++ [c]) = (keyB l && keyRest c) := by
  cases l with
  | nil => exact absurd rfl h
  | cons x t => simp [keyB, Bool.and_assoc]
theorem keyB_false (l r : List UInt8) (h : l ≠ []) (hk : keyB l = false) : keyB (l ++ r) = false := by
  cases l with
  | nil => exact absurd rfl h
  | cons x t =>
    simp only [keyB, Bool.and_eq_false_iff, List.cons_append, List.all_append] at hk ⊢
    rcases hk with h | h
    · exact .inl h
    · exact .inr (.inl h)
end Go.Proofs.YtjmpkbmgcbalkaaGreatDoor.Dn
/- Contracts of functions of Go's library, as the kit's shelf proves them of whatever program, at this program's numbers. Each states its own conditions. -/
namespace Go.Proofs.YtjmpkbmgcbalkaaGreatDoor
open Go.Shelf
def Shelf.Laysn144_ren : Go.Shelf.Ren := ⟨fun | 143 => 64 | 144 => 44 | 217 => 100 | 219 => 87 | 224 => 102 | 225 => 101 | 266 => 114 | 267 => 103 | 314 => 115 | n => n, fun | 3 => 3 | 4 => 4 | 5 => 5 | 9 => 9 | 46 => 69 | 51 => 156 | 146 => 157 | n => n, fun | 1 => 2 | n => n⟩
theorem Shelf.Laysn144 : Go.Proofs.Lays.n144 Tryz.prog Shelf.Laysn144_ren := {
  mixed := by kernel_rfl
  f143 := Tryz.func64.trans (congrArg some (by kernel_rfl))
  f144 := Tryz.func44.trans (congrArg some (by kernel_rfl))
  f217 := Tryz.func100.trans (congrArg some (by kernel_rfl))
  f219 := Tryz.func87.trans (congrArg some (by kernel_rfl))
  f224 := Tryz.func102.trans (congrArg some (by kernel_rfl))
  f225 := Tryz.func101.trans (congrArg some (by kernel_rfl))
  f266 := Tryz.func114.trans (congrArg some (by kernel_rfl))
  f267 := Tryz.func103.trans (congrArg some (by kernel_rfl))
  f314 := Tryz.func115.trans (congrArg some (by kernel_rfl))
  t3 := Tryz.underlying3
  a3 := Tryz.isAgg3
  z3 := Tryz.sizeOf3
  v3 := Tryz.zeroValue3
  t4 := Tryz.underlying4
  a4 := Tryz.isAgg4
  z4 := Tryz.sizeOf4
  v4 := Tryz.zeroValue4
  t5 := Tryz.underlying5
  a5 := Tryz.isAgg5
  z5 := Tryz.sizeOf5
  v5 := Tryz.zeroValue5
  t9 := Tryz.underlying9
  a9 := Tryz.isAgg9
  z9 := Tryz.sizeOf9
  v9 := Tryz.zeroValue9
  t46 := Tryz.underlying69
  a46 := Tryz.isAgg69
  z46 := Tryz.sizeOf69
  v46 := Tryz.zeroValue69
  t51 := Tryz.underlying156
  a51 := Tryz.isAgg156
  z51 := Tryz.sizeOf156
  v51 := Tryz.zeroValue156
  t146 := Tryz.underlying157
  a146 := Tryz.isAgg157
  z146 := Tryz.sizeOf157
  v146 := Tryz.zeroValue157
  g1 := by kernel_rfl }
open Go.RowKit Go.Lib in
theorem Shelf.strings_Contains  (s sub : ByteArray) (m : Int) (w : World) (hs : s.size < 4294967281) (hm : w.cell? ⟨2, 0, none⟩ = some (.int .i64 m)) :
    Calls Tryz.prog 44 #[.string s, .string sub] w fun e w' => e = .returned (.bool (Lib.contains s.data.toList sub.data.toList)) ∧ w' = w := Any.strings_Contains Shelf.Laysn144  s sub m w hs hm
open Go.RowKit Go.Lib in
theorem Shelf.strings_Contains_one  (s : ByteArray) (c : UInt8) (w : World) :
    Calls Tryz.prog 44 #[.string s, .string ⟨#[c]⟩] w fun e w' => e = .returned (.bool (decide (0 ≤ Lib.indexByte s.data.toList c))) ∧ w' = w := Any.strings_Contains_one Shelf.Laysn144  s c w
def Shelf.Laysn145_ren : Go.Shelf.Ren := ⟨fun | 145 => 83 | 217 => 100 | 219 => 87 | 220 => 96 | 224 => 102 | 225 => 101 | 266 => 114 | 267 => 103 | 314 => 115 | n => n, fun | 3 => 3 | 4 => 4 | 5 => 5 | 9 => 9 | 46 => 69 | 51 => 156 | 59 => 117 | 146 => 157 | n => n, fun | 1 => 2 | n => n⟩
theorem Shelf.Laysn145 : Go.Proofs.Lays.n145 Tryz.prog Shelf.Laysn145_ren := {
  mixed := by kernel_rfl
  f145 := Tryz.func83.trans (congrArg some (by kernel_rfl))
  f217 := Tryz.func100.trans (congrArg some (by kernel_rfl))
  f219 := Tryz.func87.trans (congrArg some (by kernel_rfl))
  f220 := Tryz.func96.trans (congrArg some (by kernel_rfl))
  f224 := Tryz.func102.trans (congrArg some (by kernel_rfl))
  f225 := Tryz.func101.trans (congrArg some (by kernel_rfl))
  f266 := Tryz.func114.trans (congrArg some (by kernel_rfl))
  f267 := Tryz.func103.trans (congrArg some (by kernel_rfl))
  f314 := Tryz.func115.trans (congrArg some (by kernel_rfl))
  t3 := Tryz.underlying3
  a3 := Tryz.isAgg3
  z3 := Tryz.sizeOf3
  v3 := Tryz.zeroValue3
  t4 := Tryz.underlying4
  a4 := Tryz.isAgg4
  z4 := Tryz.sizeOf4
  v4 := Tryz.zeroValue4
  t5 := Tryz.underlying5
  a5 := Tryz.isAgg5
  z5 := Tryz.sizeOf5
  v5 := Tryz.zeroValue5
  t9 := Tryz.underlying9
  a9 := Tryz.isAgg9
  z9 := Tryz.sizeOf9
  v9 := Tryz.zeroValue9
  t46 := Tryz.underlying69
  a46 := Tryz.isAgg69
  z46 := Tryz.sizeOf69
  v46 := Tryz.zeroValue69
  t51 := Tryz.underlying156
  a51 := Tryz.isAgg156
  z51 := Tryz.sizeOf156
  v51 := Tryz.zeroValue156
  t59 := Tryz.underlying117
  a59 := Tryz.isAgg117
  z59 := Tryz.sizeOf117
  v59 := Tryz.zeroValue117
  t146 := Tryz.underlying157
  a146 := Tryz.isAgg157
  z146 := Tryz.sizeOf157
  v146 := Tryz.zeroValue157
  g1 := by kernel_rfl }
open Go.RowKit Go.Lib in
theorem Shelf.strings_Cut  (s sep : ByteArray) (m : Int) (w : World) (hs : s.size < 4294967281) (hm : w.cell? ⟨2, 0, none⟩ = some (.int .i64 m)) :
    Calls Tryz.prog 83 #[.string s, .string sep] w fun e w' => e = .returned (.tuple #[.string ⟨(Lib.cut s.data.toList sep.data.toList).1.toArray⟩, .string ⟨(Lib.cut s.data.toList sep.data.toList).2.1.toArray⟩, .bool (Lib.cut s.data.toList sep.data.toList).2.2]) ∧ ∃ n, w' = w.drewN n := Any.strings_Cut Shelf.Laysn145  s sep m w hs hm
def Shelf.Laysn146_ren : Go.Shelf.Ren := ⟨fun | 138 => 90 | 143 => 64 | 146 => 47 | 195 => 105 | 197 => 106 | 217 => 100 | 218 => 107 | 219 => 87 | 221 => 67 | 224 => 102 | 225 => 101 | 260 => 116 | 266 => 114 | 267 => 103 | 268 => 89 | 314 => 115 | n => n, fun | 0 => 0 | 3 => 3 | 4 => 4 | 5 => 5 | 9 => 9 | 21 => 21 | 31 => 52 | 46 => 69 | 51 => 156 | 105 => 146 | 119 => 165 | 138 => 167 | 139 => 168 | 146 => 157 | n => n, fun | 1 => 2 | 3 => 4 | 4 => 5 | n => n⟩
theorem Shelf.Laysn146 : Go.Proofs.Lays.n146 Tryz.prog Shelf.Laysn146_ren := {
  mixed := by kernel_rfl
  f138 := Tryz.func90.trans (congrArg some (by kernel_rfl))
  f143 := Tryz.func64.trans (congrArg some (by kernel_rfl))
  f146 := Tryz.func47.trans (congrArg some (by kernel_rfl))
  f195 := Tryz.func105.trans (congrArg some (by kernel_rfl))
  f197 := Tryz.func106.trans (congrArg some (by kernel_rfl))
  f217 := Tryz.func100.trans (congrArg some (by kernel_rfl))
  f218 := Tryz.func107.trans (congrArg some (by kernel_rfl))
  f219 := Tryz.func87.trans (congrArg some (by kernel_rfl))
  f221 := Tryz.func67.trans (congrArg some (by kernel_rfl))
  f224 := Tryz.func102.trans (congrArg some (by kernel_rfl))
  f225 := Tryz.func101.trans (congrArg some (by kernel_rfl))
  f260 := Tryz.func116.trans (congrArg some (by kernel_rfl))
  f266 := Tryz.func114.trans (congrArg some (by kernel_rfl))
  f267 := Tryz.func103.trans (congrArg some (by kernel_rfl))
  f268 := Tryz.func89.trans (congrArg some (by kernel_rfl))
  f314 := Tryz.func115.trans (congrArg some (by kernel_rfl))
  t0 := Tryz.underlying0
  a0 := Tryz.isAgg0
  z0 := Tryz.sizeOf0
  v0 := Tryz.zeroValue0
  t3 := Tryz.underlying3
  a3 := Tryz.isAgg3
  z3 := Tryz.sizeOf3
  v3 := Tryz.zeroValue3
  t4 := Tryz.underlying4
  a4 := Tryz.isAgg4
  z4 := Tryz.sizeOf4
  v4 := Tryz.zeroValue4
  t5 := Tryz.underlying5
  a5 := Tryz.isAgg5
  z5 := Tryz.sizeOf5
  v5 := Tryz.zeroValue5
  t9 := Tryz.underlying9
  a9 := Tryz.isAgg9
  z9 := Tryz.sizeOf9
  v9 := Tryz.zeroValue9
  t21 := Tryz.underlying21
  a21 := Tryz.isAgg21
  z21 := Tryz.sizeOf21
  v21 := Tryz.zeroValue21
  t31 := Tryz.underlying52
  a31 := Tryz.isAgg52
  z31 := Tryz.sizeOf52
  v31 := Tryz.zeroValue52
  t46 := Tryz.underlying69
  a46 := Tryz.isAgg69
  z46 := Tryz.sizeOf69
  v46 := Tryz.zeroValue69
  t51 := Tryz.underlying156
  a51 := Tryz.isAgg156
  z51 := Tryz.sizeOf156
  v51 := Tryz.zeroValue156
  t105 := Tryz.underlying146
  a105 := Tryz.isAgg146
  z105 := Tryz.sizeOf146
  v105 := Tryz.zeroValue146
  t119 := Tryz.underlying165
  a119 := Tryz.isAgg165
  z119 := Tryz.sizeOf165
  t138 := Tryz.underlying167
  a138 := Tryz.isAgg167
  z138 := Tryz.sizeOf167
  v138 := Tryz.zeroValue167
  t139 := Tryz.underlying168
  a139 := Tryz.isAgg168
  z139 := Tryz.sizeOf168
  v139 := Tryz.zeroValue168
  t146 := Tryz.underlying157
  a146 := Tryz.isAgg157
  z146 := Tryz.sizeOf157
  v146 := Tryz.zeroValue157
  g1 := by kernel_rfl
  g3 := by kernel_rfl
  g4 := by kernel_rfl }
open Go.RowKit Go.Lib in
theorem Shelf.strings_Split  (s sep : ByteArray) (m : Int) (w : World) (hs : s.size < 4294967281) (hm : w.cell? ⟨2, 0, none⟩ = some (.int .i64 m)) (h1 : 1 ≤ sep.size) :
    Calls Tryz.prog 47 #[.string s, .string sep] w fun e w' =>
      e = .returned (.slice (some ⟨w.heap.size, 0, none⟩) (Lib.countB s sep + 1) (Lib.countB s sep + 1)) ∧ w' = w.alloc (.cells ((Lib.splitB sep 0 (Lib.countB s sep) s).map Value.string).toArray 9) := Any.strings_Split Shelf.Laysn146  (by kernel_rfl) s sep m w hs hm h1
end Go.Proofs.YtjmpkbmgcbalkaaGreatDoor
/- Contracts of functions of Go's library, as the kit's shelf proves them of whatever program, at this program's numbers. Each states its own conditions. -/
namespace Go.Proofs.YtjmpkbmgcbalkaaGreatDoor
open Go.Shelf
def Shelf.LaysGwn17_ren : Go.Shelf.Ren := ⟨fun | 15 => 88 | 17 => 66 | 20 => 104 | n => n, fun | 0 => 0 | 3 => 3 | 4 => 4 | 9 => 9 | 21 => 21 | 23 => 87 | n => n, fun  | n => n⟩
theorem Shelf.LaysGwn17 : Go.Proofs.LaysGw.n17 Tryz.prog Shelf.LaysGwn17_ren := {
  mixed := by kernel_rfl
  f15 := Tryz.func88.trans (congrArg some (by kernel_rfl))
  f17 := Tryz.func66.trans (congrArg some (by kernel_rfl))
  f20 := Tryz.func104.trans (congrArg some (by kernel_rfl))
  t0 := Tryz.underlying0
  a0 := Tryz.isAgg0
  z0 := Tryz.sizeOf0
  v0 := Tryz.zeroValue0
  i0 := by kernel_rfl
  t3 := Tryz.underlying3
  a3 := Tryz.isAgg3
  z3 := Tryz.sizeOf3
  v3 := Tryz.zeroValue3
  i3 := by kernel_rfl
  t4 := Tryz.underlying4
  a4 := Tryz.isAgg4
  z4 := Tryz.sizeOf4
  v4 := Tryz.zeroValue4
  i4 := by kernel_rfl
  t9 := Tryz.underlying9
  a9 := Tryz.isAgg9
  z9 := Tryz.sizeOf9
  v9 := Tryz.zeroValue9
  i9 := by kernel_rfl
  t21 := Tryz.underlying21
  a21 := Tryz.isAgg21
  z21 := Tryz.sizeOf21
  v21 := Tryz.zeroValue21
  i21 := by kernel_rfl
  t23 := Tryz.underlying87
  a23 := Tryz.isAgg87
  z23 := Tryz.sizeOf87
  v23 := Tryz.zeroValue87
  i23 := by kernel_rfl }
open Go.RowKit Go.Lib in
theorem Shelf.strings_ContainsFunc  (g : Nat) (lb : Array Value) (eg : ∀ args w, (callFunc g args).run Tryz.prog w = .ok (.enter g args) w) (p : Nat → Bool) (s : ByteArray) (w : World) (hp : PredAt Tryz.prog g lb encR p w) :
    Calls Tryz.prog 66 #[.string s, .func (.func g) #[] lb] w fun e w' => e = .returned (.bool (decide (0 ≤ Lib.idxFunc p true s))) ∧ Below w.heap.size w w' := Any.strings_ContainsFunc Shelf.LaysGwn17  g lb eg p s w hp
end Go.Proofs.YtjmpkbmgcbalkaaGreatDoor
