/- Several texts, one behind the other. Contracts of functions of Go's library, as the kit's shelf proves them of whatever program, at this program's numbers. Each states its own conditions. What the walks ask of the package-level variables: the sentinel errors, MaxLen's number, the decoder's two tables. It lives on in later worlds. utf.Right: is a text right? (its walk over signs). Conditions: the decoder's tables are laid; at most 10^9 bytes. Plain laws on texts, their runes and bytes. No program. The sign at the head of a text, told by the document (oneN) and by the decoder (decL): which bytes are one, and how many they are, is told alike. No conditions. latinerref04, walked: which texts are right. Conditions: texts of at most 10^9 bytes. -/
import Derived.Shelf.Unicode.DecodeAny
import Derived.Shelf.Small.Utf8
import Derived.Test.YtjmpkbmgcbalkaaGreatDoorProg
import Derived.Test.YtjmpkbmgcbalkaaGreatDoorT01
import Derived.Shelf.Unicode.DecodeSlow
import Derived.Test.YtjmpkbmgcbalkaaGreatDoorT06
import Derived.Lib.TrimU
import Derived.Lib.OthersKept
import Derived.Lib.RuneCountTail
import Derived.Deep.LoopGhost
import Derived.Shelf.GgClosure.StringsIndexFunc
import Derived.Laws.RangeAny
import GoSem.Core.Utf8
import Derived.Test.YtjmpkbmgcbalkaaGreatDoorT08
import Derived.Test.YtjmpkbmgcbalkaaGreatDoorT09
/- Contracts of functions of Go's library, as the kit's shelf proves them of whatever program, at this program's numbers. Each states its own conditions. -/
namespace Go.Proofs.YtjmpkbmgcbalkaaGreatDoor
open Go.Shelf
def Shelf.Laysn197_ren : Go.Shelf.Ren := ⟨fun | 197 => 106 | 260 => 116 | n => n, fun | 0 => 0 | 3 => 3 | 4 => 4 | 5 => 5 | 9 => 9 | 21 => 21 | 46 => 69 | 105 => 146 | 119 => 165 | 138 => 167 | 139 => 168 | n => n, fun | 3 => 4 | 4 => 5 | n => n⟩
theorem Shelf.Laysn197 : Go.Proofs.Lays.n197 Tryz.prog Shelf.Laysn197_ren := {
  mixed := by kernel_rfl
  f197 := Tryz.func106.trans (congrArg some (by kernel_rfl))
  f260 := Tryz.func116.trans (congrArg some (by kernel_rfl))
  t0 := Tryz.underlying0
  a0 := Tryz.isAgg0
  z0 := Tryz.sizeOf0
  v0 := Tryz.zeroValue0
  t3 := Tryz.underlying3
  a3 := Tryz.isAgg3
  z3 := Tryz.sizeOf3
  v3 := Tryz.zeroValue3
  t4 := Tryz.underlying4
  a4 := Tryz.isAgg4
  z4 := Tryz.sizeOf4
  v4 := Tryz.zeroValue4
  t5 := Tryz.underlying5
  a5 := Tryz.isAgg5
  z5 := Tryz.sizeOf5
  v5 := Tryz.zeroValue5
  t9 := Tryz.underlying9
  a9 := Tryz.isAgg9
  z9 := Tryz.sizeOf9
  v9 := Tryz.zeroValue9
  t21 := Tryz.underlying21
  a21 := Tryz.isAgg21
  z21 := Tryz.sizeOf21
  v21 := Tryz.zeroValue21
  t46 := Tryz.underlying69
  a46 := Tryz.isAgg69
  z46 := Tryz.sizeOf69
  v46 := Tryz.zeroValue69
  t105 := Tryz.underlying146
  a105 := Tryz.isAgg146
  z105 := Tryz.sizeOf146
  v105 := Tryz.zeroValue146
  t119 := Tryz.underlying165
  a119 := Tryz.isAgg165
  z119 := Tryz.sizeOf165
  t138 := Tryz.underlying167
  a138 := Tryz.isAgg167
  z138 := Tryz.sizeOf167
  v138 := Tryz.zeroValue167
  t139 := Tryz.underlying168
  a139 := Tryz.isAgg168
  z139 := Tryz.sizeOf168
  v139 := Tryz.zeroValue168
  g3 := by kernel_rfl
  g4 := by kernel_rfl }
open Go.RowKit Go.Lib in
theorem Shelf.utf8_DecodeRuneInString  (s : ByteArray) (w : World) (hT : Lib.Utf8Tabs 4 5 w) :
    Calls Tryz.prog 106 #[.string s] w fun e w' => e = .returned (.tuple #[.int .i32 (Lib.decodeGo s).1, .int .i64 (Lib.decodeGo s).2]) ∧ Below w.heap.size w w' := Any.utf8_DecodeRuneInString Shelf.Laysn197  s w hT
def Shelf.Laysn119_ren : Go.Shelf.Ren := ⟨fun | 119 => 130 | n => n, fun | 4 => 4 | 21 => 21 | n => n, fun  | n => n⟩
theorem Shelf.Laysn119 : Go.Proofs.Lays.n119 Tryz.prog Shelf.Laysn119_ren := {
  mixed := by kernel_rfl
  f119 := Tryz.func130.trans (congrArg some (by kernel_rfl))
  t4 := Tryz.underlying4
  a4 := Tryz.isAgg4
  z4 := Tryz.sizeOf4
  v4 := Tryz.zeroValue4
  t21 := Tryz.underlying21
  a21 := Tryz.isAgg21
  z21 := Tryz.sizeOf21
  v21 := Tryz.zeroValue21 }
theorem Shelf.utf8_ValidRune  (r : Int) (w : World) :
    Calls Tryz.prog 130 #[.int .i32 r] w fun e w' => e = .returned (.bool (Lib.validRune r)) ∧ w' = w := Any.utf8_ValidRune Shelf.Laysn119  r w
end Go.Proofs.YtjmpkbmgcbalkaaGreatDoor
/- What the walks ask of the package-level variables: the sentinel errors, MaxLen's number, the decoder's two tables. It lives on in later worlds. -/
namespace Go.Proofs.YtjmpkbmgcbalkaaGreatDoor
open Go.RowKit
structure Env (w : World) (p : Nat → Addr) : Prop where
  gl : Globs w p
  ml : ∃ m, w.cell? ⟨2, 0, none⟩ = some (.int .i64 m)
  ut : Lib.Utf8Tabs 4 5 w
theorem tabs_below {w w' : World} (h : Lib.Utf8Tabs 4 5 w) (hb : Below w.heap.size w w') : Lib.Utf8Tabs 4 5 w' :=
  ⟨fun c hc => cell_below (h.1 c hc) hb, fun i hi => ⟨cell_below (h.2 i hi).1 hb, cell_below (h.2 i hi).2 hb⟩⟩
theorem Env.below {w w' : World} {p : Nat → Addr} (h : Env w p) (hb : Below w.heap.size w w') : Env w' p where
  gl := h.gl.below hb
  ml := h.ml.imp fun _ hm => cell_below hm hb
  ut := tabs_below h.ut hb
end Go.Proofs.YtjmpkbmgcbalkaaGreatDoor
/- utf.Right: is a text right? (its walk over signs). Conditions: the decoder's tables are laid; at most 10^9 bytes. -/
namespace Go.Proofs.YtjmpkbmgcbalkaaGreatDoor.Utf
open Go.RowKit Go.Lib
set_option linter.unusedVariables false
/-- no sign from a place on is wrong -/
def utfR (s : ByteArray) : Nat → Nat → Bool
  | 0, _ => true
  | f + 1, pos => if pos < s.size then (if (Utf8.decode s pos).1 == 65533 && (Utf8.decode s pos).2 == 1 then false else utfR s f (pos + (Utf8.decode s pos).2)) else true
def utfB (s : ByteArray) : Bool := utfR s s.size 0
theorem decode_tail (s : ByteArray) (pos : Nat) (h : pos < s.size) : Lib.decodeGo (s.extract pos s.size) = Utf8.decode s pos := by
  unfold Lib.decodeGo
  rw [if_neg (by rw [Lib.tail_size]; omega), Lib.tail_decode, Nat.add_zero]
attribute [local go_sem] Oper.semAt_some
/-- what the walk over signs leaves: J holds, or J and the error's cell set -/
def Walked (J : World → Prop) (E : Addr) (s : ByteArray) (W : World) : Prop :=
  (utfB s = true ∧ J W) ∨ (utfB s = false ∧ ∃ (n : Int) (W1 : World), J W1 ∧ W = W1.setCell E (.iface 183 (.agg #[.int .i64 n])))
set_option maxHeartbeats 4000000 in
theorem signs_iter {l0 Tx Ex K : Nat} {E : Addr} {s : ByteArray} (hs : s.size ≤ 1000000000) (J : World → Prop)
    (hJt : ∀ W, J W → W.cell? ⟨Tx, 0, none⟩ = some (.string s)) (hJe : ∀ W, J W → W.cell? ⟨Ex, 0, none⟩ = some (.pointer (some E))) (hJE : ∀ W, J W → ∃ v, W.cell? E = some v) (hJf : ∀ W, J W → W.frozen? E = false)
    (hJu : ∀ W, J W → Lib.Utf8Tabs 4 5 W) (hJb : ∀ W W', J W → Below K W W' → J W') (hJs : ∀ W, J W → K ≤ W.heap.size)
    (hY : ∀ (k r : Int) W, J W → ∃ fn tmps assign body, (Instr.yield l0 #[.int .i64 k, .int .i32 r]).run Tryz.prog W = .ok (.round l0 fn tmps assign body) W ∧ RoundIn Fence.wide 0 Tryz.prog l0 fn tmps assign body W (fun e W' => e = .returned (.bool true) ∧ J W' ∧ ∀ j, K ≤ j → W'.heap[j]? = W.heap[j]?))
    (W : World) (h0 : J W) (hK : W.heap.size = K) :
    Calls Tryz.prog 132 #[.func (.yield l0) #[] #[], .pointer (some ⟨Tx, 0, none⟩), .pointer (some ⟨Ex, 0, none⟩)] W fun e W' => (∃ v, e = .returned v) ∧ Walked J E s W' := by
  have c0 := hJt W h0
  subst hK
  go_enter Tryz.func132, Tryz.ntmps132
  go_wp2
  go_step3
  go_wp2
  go_step3
  go_wp2
  go_loopg [] s.size (fun gk wr => Aside (∃ pos : Nat, wr.heap[W.heap.size]? = some (.stringIter s pos) ∧ J wr ∧ s.size ≤ pos + gk ∧ utfR s gk pos = utfB s))
  case atStart => exact ⟨⟨0, World.iter_heap W s 0, hJb _ _ h0 (below_new _ _), by omega, rfl⟩⟩
  case round =>
    obtain ⟨pos, hit, hj, hgk, hu⟩ := hrel.out
    clear hrel c0
    have HU := Aside.mk hu
    have HJ := Aside.mk hj
    clear hu hj
    by_cases hp : pos < s.size
    · obtain ⟨m, rfl⟩ : ∃ m, gk = m + 1 := ⟨gk - 1, by omega⟩
      have hnx : ∀ ty, (Instr.next (.pointer (some ⟨W.heap.size, 0, none⟩)) true ty).run Tryz.prog wr = _ := fun ty => Lib.run_next_any_at wr W.heap.size s pos ty hit hp
      have HW1 := Aside.mk (Lib.width_pos s pos)
      have HD := Aside.mk (decode_tail s pos hp)
      have HST := Aside.mk (show utfB s = (if (Utf8.decode s pos).1 == 65533 && (Utf8.decode s pos).2 == 1 then false else utfR s m (pos + (Utf8.decode s pos).2)) by rw [← HU.out]; simp [utfR, hp])
      generalize Utf8.decode s pos = d at hnx HW1 HD HST
      obtain ⟨r, wd⟩ := d
      obtain ⟨w2, hw2⟩ : ∃ w2, wr.iterAt W.heap.size s (pos + wd) = w2 := ⟨_, rfl⟩
      have hit2 : w2.heap[W.heap.size]? = some (.stringIter s (pos + wd)) := by rw [← hw2]; exact Lib.iterAt_heap wr W.heap.size s pos _ hit
      have hj2 : J w2 := by rw [← hw2]; exact hJb _ _ HJ.out (Lib.below_iterAt (Below.refl _ _) (k := W.heap.size) (Nat.le_refl _) s _)
      have hpi : (0 : Int) ≤ (pos : Int) := by omega
      have hpj : (pos : Int) ≤ (s.size : Int) := by omega
      rw [hw2] at hnx
      clear hw2 hit
      have HI2 := Aside.mk hit2
      have HJ2 := Aside.mk hj2
      have c0 := hJt _ hj2
      have HC := Aside.mk (show Calls Tryz.prog 106 #[.string (s.extract pos s.size)] w2 fun e w' => e = .returned (.tuple #[.int .i32 r, .int .i64 wd]) ∧ Below w2.heap.size w2 w' by
        have := Shelf.utf8_DecodeRuneInString (s.extract pos s.size) w2 (hJu _ hj2)
        rwa [HD.out] at this)
      clear hit2 hj2
      refine (wpIn_wide (n := 1)).1 ?_
      gi_wp2_with fail
      refine ⟨trivial, callsIn_wide.2 (HC.out.mono ?_)⟩
      rintro e w3 ⟨rfl, hb⟩
      have hw2 : W.heap.size < w2.heap.size := (Array.getElem?_eq_some_iff.1 HI2.out).1
      have HI3 := Aside.mk (hb.block W.heap.size hw2 ▸ HI2.out)
      have HJ3 := Aside.mk (hJb _ _ HJ2.out (hb.mono (Nat.le_of_lt hw2)))
      clear hb c0
      by_cases hbad : r = 65533 ∧ wd = 1
      · obtain ⟨rfl, rfl⟩ := hbad
        have HF := Aside.mk (show utfB s = false by rw [HST.out]; rfl)
        have c1 := hJe _ HJ3.out
        obtain ⟨v0, c2⟩ := hJE _ HJ3.out
        have c3 := hJf _ HJ3.out
        clear hnx
        gi_wp2
        rw [Exit.noGoto_normal]
        go_end0
        exact ⟨⟨_, rfl⟩, .inr ⟨HF.out, _, w3, HJ3.out, rfl⟩⟩
      · have HT := Aside.mk (show utfB s = utfR s m (pos + wd) by
          rw [HST.out, if_neg]
          simp only [Bool.and_eq_true, beq_iff_eq]
          exact hbad)
        obtain ⟨fn, tm, asg, bo, hy, hR⟩ := hY pos r w3 HJ3.out
        have HRR := Aside.mk hR
        clear hR hnx
        have hcases : ((r : Int) == 65533) = false ∨ (((r : Int) == 65533) = true ∧ ((wd : Int) == 1) = false) := by
          by_cases h1 : r = 65533
          · right
            have : wd ≠ 1 := fun e => hbad ⟨h1, e⟩
            constructor
            · simp [h1]
            · rw [beq_eq_false_iff_ne]; omega
          · left; rw [beq_eq_false_iff_ne]; omega
        clear hbad
        rcases hcases with h1 | ⟨h1, h2⟩
        all_goals
          gi_wp2_with fail
          refine HRR.out.mono ?_
          rintro e w4 ⟨rfl, hj4, hk4⟩
          have HJ4 := Aside.mk hj4
          have HI4 := Aside.mk ((hk4 _ (Nat.le_refl _)).trans HI3.out)
          clear hj4 hk4 hy
          gi_wp2
          go_roundg m
        all_goals first
          | (case measure => omega)
          | (case rel => exact ⟨pos + wd, HI4.out, HJ4.out, by have := HW1.out; omega, HT.out.symm⟩)
          | skip
    · have HE := Aside.mk (show utfB s = true by
        rw [← HU.out]
        cases gk with
        | zero => rfl
        | succ f => simp [utfR, hp])
      have hnx : ∀ ty, (Instr.next (.pointer (some ⟨W.heap.size, 0, none⟩)) true ty).run Tryz.prog wr = _ := fun ty => Lib.run_next_end_at wr W.heap.size s pos ty hit hp
      clear hp
      go_wp2
      rw [Exit.noGoto_normal]
      go_end0
      exact ⟨⟨_, rfl⟩, .inl ⟨HE.out, HJ.out⟩⟩
end Go.Proofs.YtjmpkbmgcbalkaaGreatDoor.Utf
/- Plain laws on texts, their runes and bytes. No program. -/
namespace Go.Proofs.YtjmpkbmgcbalkaaGreatDoor.Txt
open Go
set_option linter.unusedVariables false
theorem bl (s : ByteArray) : s.toList = s.data.toList := ByteArray.toList_eq s
theorem size_list (s : ByteArray) : s.data.toList.length = s.size := by rw [Array.length_toList]; rfl
theorem mk_list (s : ByteArray) : (⟨s.data.toList.toArray⟩ : ByteArray) = s := by simp
theorem size_mk (l : List UInt8) : (⟨l.toArray⟩ : ByteArray).size = l.length := by show l.toArray.size = _; simp
theorem list_mk (l : List UInt8) : (⟨l.toArray⟩ : ByteArray).data.toList = l := rfl
theorem drop_cons (s : ByteArray) (pos : Nat) (h : pos < s.size) : s.data.toList.drop pos = s[pos] :: s.data.toList.drop (pos + 1) := by
  rw [List.drop_eq_getElem_cons (by rw [size_list]; exact h)]; rfl
theorem take_snoc (s : ByteArray) (pos : Nat) (h : pos < s.size) : s.data.toList.take (pos + 1) = s.data.toList.take pos ++ [s[pos]] := by
  rw [List.take_succ_eq_append_getElem (by rw [size_list]; exact h)]; rfl
theorem idx_from (p : Nat → Bool) (hp : ∀ r, 128 ≤ r → p r = true) (s : ByteArray) : ∀ f pos, s.size ≤ pos + f → decide (0 ≤ Lib.idxFuncFrom p true s f pos) = (s.data.toList.drop pos).any (fun c => p c.toNat)
  | 0, pos, h => by
    rw [Lib.idxFuncFrom_end p true s 0 pos (by omega), List.drop_eq_nil_of_le (by rw [size_list]; omega)]; rfl
  | f + 1, pos, h => by
    by_cases hlt : pos < s.size
    · rw [drop_cons s pos hlt, List.any_cons]
      unfold Lib.idxFuncFrom
      rw [if_pos hlt]
      by_cases ha : (s[pos]).toNat < 128
      · rw [decode_ascii s pos hlt ha]
        dsimp only
        by_cases hq : p (s[pos]).toNat = true
        · rw [if_pos hq, hq]; simp
        · rw [if_neg hq, idx_from p hp s f (pos + 1) (by omega)]
          simp [hq]
      · have hh := decode_high s pos hlt (by omega)
        rw [if_pos (hp _ hh.1), hp _ (by omega)]
        simp
    · rw [Lib.idxFuncFrom_end p true s _ pos hlt, List.drop_eq_nil_of_le (by rw [size_list]; omega)]; rfl
theorem idx_any (p : Nat → Bool) (hp : ∀ r, 128 ≤ r → p r = true) (s : ByteArray) : decide (0 ≤ Lib.idxFunc p true s) = s.data.toList.any (fun c => p c.toNat) := by
  unfold Lib.idxFunc
  rw [idx_from p hp s s.size 0 (by omega), List.drop_zero]
end Go.Proofs.YtjmpkbmgcbalkaaGreatDoor.Txt
/- The sign at the head of a text, told by the document (oneN) and by the decoder (decL): which bytes are one, and how many they are, is told alike. No conditions. -/
namespace Go.Proofs.YtjmpkbmgcbalkaaGreatDoor.Rf
set_option linter.unusedVariables false
def signB (n : Nat) : Bool := decide (n ≤ 1114111) && (decide (n < 55296) || decide (57343 < n))
def bytesN (n : Nat) : List UInt8 :=
  if n < 128 then [UInt8.ofNat n] else if n < 2048 then [UInt8.ofNat (192 + n / 64), UInt8.ofNat (128 + n % 64)]
  else if n < 65536 then [UInt8.ofNat (224 + n / 4096), UInt8.ofNat (128 + n / 64 % 64), UInt8.ofNat (128 + n % 64)]
  else [UInt8.ofNat (240 + n / 262144), UInt8.ofNat (128 + n / 4096 % 64), UInt8.ofNat (128 + n / 64 % 64), UInt8.ofNat (128 + n % 64)]
def leadK (b : Nat) : Nat := if 240 ≤ b then 4 else if 224 ≤ b then 3 else if 192 ≤ b then 2 else 1
def leadN (b : Nat) : Nat := if 240 ≤ b then b - 240 else if 224 ≤ b then b - 224 else if 192 ≤ b then b - 192 else b
def moreN (l : List UInt8) (n : Nat) : Nat → Nat
  | 0 => n
  | j + 1 => 64 * moreN l n j + (l.getD (j + 1) 0).toNat % 64
/-- the sign at the head of a text, and how many bytes it has; 0: there is none -/
def oneN (l : List UInt8) : Nat × Nat :=
  if l.length < leadK (l.getD 0 0).toNat then (0, 0)
  else if signB (moreN l (leadN (l.getD 0 0).toNat) (leadK (l.getD 0 0).toNat - 1)) && decide (bytesN (moreN l (leadN (l.getD 0 0).toNat) (leadK (l.getD 0 0).toNat - 1)) = l.take (leadK (l.getD 0 0).toNat)) then (moreN l (leadN (l.getD 0 0).toNat) (leadK (l.getD 0 0).toNat - 1), leadK (l.getD 0 0).toNat) else (0, 0)
def decL (l : List UInt8) : Nat × Nat :=
  let at' (k : Nat) : Nat := (l.getD k 0).toNat
  let cont (k : Nat) : Bool := decide (k < l.length) && at' k / 64 == 2
  let b0 := at' 0
  if b0 < 0x80 then (b0, 1)
  else if b0 / 32 == 6 && cont 1 then
    let c := (b0 % 32) * 64 + at' 1 % 64
    if c ≥ 0x80 then (c, 2) else (65533, 1)
  else if b0 / 16 == 14 && cont 1 && cont 2 then
    let c := (b0 % 16) * 4096 + (at' 1 % 64) * 64 + at' 2 % 64
    if c ≥ 0x800 && Utf8.valid c then (c, 3) else (65533, 1)
  else if b0 / 8 == 30 && cont 1 && cont 2 && cont 3 then
    let c := (b0 % 8) * 262144 + (at' 1 % 64) * 4096 + (at' 2 % 64) * 64 + at' 3 % 64
    if c ≥ 0x10000 && Utf8.valid c then (c, 4) else (65533, 1)
  else (65533, 1)
theorem get_drop (s : ByteArray) (i k : Nat) : (s.get! (i + k)) = (s.data.toList.drop i).getD k 0 := by
  rw [List.getD_eq_getElem?_getD, List.getElem?_drop, Array.getElem?_toList]
  show s.data[i + k]! = _
  rw [Array.getElem!_eq_getD, Array.getD_eq_getD_getElem?]
  rfl
theorem dec_list (s : ByteArray) (i : Nat) : Utf8.decode s i = decL (s.data.toList.drop i) := by
  unfold Utf8.decode decL
  simp only [get_drop, Utf8.runeError]
  have : ∀ k, (decide (i + k < s.size)) = decide (k < (s.data.toList.drop i).length) := fun k => by
    have : s.size = s.data.toList.length := rfl
    rw [List.length_drop, this]
    congr 1
    apply propext; omega
  simp only [this]
theorem u8 (a : UInt8) (n : Nat) : UInt8.ofNat n = a ↔ n % 256 = a.toNat := by
  rw [← UInt8.toNat_inj, UInt8.toNat_ofNat']
theorem valid_sign (n : Nat) : Utf8.valid (n : Int) = signB n := by
  unfold Utf8.valid signB
  rw [Bool.eq_iff_iff]
  simp
  omega
theorem lead_cases (n : Nat) (h : n < 256) : (n < 192 ∧ leadK n = 1 ∧ leadN n = n) ∨ (192 ≤ n ∧ n < 224 ∧ leadK n = 2 ∧ leadN n = n - 192) ∨ (224 ≤ n ∧ n < 240 ∧ leadK n = 3 ∧ leadN n = n - 224) ∨ (240 ≤ n ∧ leadK n = 4 ∧ leadN n = n - 240) := by
  unfold leadK leadN
  by_cases h1 : 240 ≤ n
  · simp [h1]
  · by_cases h2 : 224 ≤ n
    · simp [h1, h2]; omega
    · by_cases h3 : 192 ≤ n
      · simp [h1, h2, h3]; omega
      · simp [h1, h2, h3]; omega
theorem parts4 (x b c d m : Nat) (hb : b < 64) (hc : c < 64) (hd : d < 64) (h : x * 262144 + b * 4096 + c * 64 + d = m) : m / 262144 = x ∧ m / 4096 % 64 = b ∧ m / 64 % 64 = c ∧ m % 64 = d := by omega
theorem one_decL (a : UInt8) (t : List UInt8) : (oneN (a :: t)).2 = if (decL (a :: t)).1 == 65533 && (decL (a :: t)).2 == 1 then 0 else (decL (a :: t)).2 := by
  have ha : a.toNat < 256 := a.toNat_lt
  unfold oneN
  simp only [List.getD_cons_zero]
  rcases lead_cases a.toNat ha with ⟨h1, k, n⟩ | ⟨h1, h2, k, n⟩ | ⟨h1, h2, k, n⟩ | ⟨h1, k, n⟩
  · rw [k, n, if_neg (by simp)]
    simp only [Nat.sub_self, moreN, List.take_succ_cons, List.take_zero]
    by_cases h : a.toNat < 128
    · have e1 : decL (a :: t) = (a.toNat, 1) := by unfold decL; simp [h]
      have e2 : bytesN a.toNat = [a] := by unfold bytesN; rw [if_pos h, (u8 a a.toNat).2 (by omega)]
      have e3 : signB a.toNat = true := by unfold signB; simp; omega
      rw [e1, e2, e3]
      have : (a.toNat == 65533) = false := by simp; omega
      simp [this]
    · have e1 : decL (a :: t) = (65533, 1) := by
        unfold decL
        have g1 : (a.toNat / 32 == 6) = false := by simp; omega
        have g2 : (a.toNat / 16 == 14) = false := by simp; omega
        have g3 : (a.toNat / 8 == 30) = false := by simp; omega
        simp [h, g1, g2, g3]
      have e2 : bytesN a.toNat ≠ [a] := by unfold bytesN; rw [if_neg h, if_pos (by omega)]; simp
      rw [e1]
      simp [e2]
  · rw [k, n]
    cases t with
    | nil =>
      have e1 : decL [a] = (65533, 1) := by
        unfold decL
        have g0 : ¬ a.toNat < 128 := by omega
        simp [g0]
      rw [e1]; simp
    | cons b t =>
      have hb : b.toNat < 256 := b.toNat_lt
      rw [if_neg (by simp)]
      simp only [Nat.reduceSub, moreN, List.getD_cons_succ, List.getD_cons_zero, List.take_succ_cons, List.take_zero]
      have g0 : ¬ a.toNat < 128 := by omega
      have g1 : (a.toNat / 32 == 6) = true := by simp; omega
      have g2 : (a.toNat / 16 == 14) = false := by simp; omega
      have g3 : (a.toNat / 8 == 30) = false := by simp; omega
      have e1 : decL (a :: b :: t) = if b.toNat / 64 = 2 ∧ 128 ≤ a.toNat % 32 * 64 + b.toNat % 64 then (a.toNat % 32 * 64 + b.toNat % 64, 2) else (65533, 1) := by
        unfold decL
        simp only [List.getD_cons_zero, List.getD_cons_succ, g0, if_false, g1, g2, g3, List.length_cons, Bool.false_and, Bool.true_and, Bool.false_eq_true]
        by_cases q1 : b.toNat / 64 = 2 <;> by_cases q2 : 128 ≤ a.toNat % 32 * 64 + b.toNat % 64 <;> simp [q1, q2]
      have em : 64 * (a.toNat - 192) + b.toNat % 64 = a.toNat % 32 * 64 + b.toNat % 64 := by omega
      rw [e1, em]
      generalize hn : a.toNat % 32 * 64 + b.toNat % 64 = m
      have e3 : signB m = true := by unfold signB; simp; omega
      by_cases q : b.toNat / 64 = 2 ∧ 128 ≤ m
      · have e2 : bytesN m = [a, b] := by
          unfold bytesN
          rw [if_neg (by omega), if_pos (by omega), (u8 a _).2 (by omega), (u8 b _).2 (by omega)]
        have : (m == 65533) = false := by simp; omega
        rw [if_pos q, e2, e3]; simp
      · have e2 : bytesN m ≠ [a, b] := by
          unfold bytesN
          split
          · simp
          · rw [if_pos (by omega)]
            intro e
            injection e with e4 e5
            injection e5 with e6 _
            rw [u8] at e4 e6
            apply q; omega
        rw [if_neg q]; simp [e2]
  · rw [k, n]
    rcases t with _ | ⟨b, _ | ⟨c, t⟩⟩
    · have e1 : decL [a] = (65533, 1) := by
        unfold decL
        have g0 : ¬ a.toNat < 128 := by omega
        simp [g0]
      rw [e1]; simp
    · have e1 : decL [a, b] = (65533, 1) := by
        unfold decL
        have g0 : ¬ a.toNat < 128 := by omega
        have g1 : (a.toNat / 32 == 6) = false := by simp; omega
        simp [g0, g1]
      rw [e1]; simp
    · have hb : b.toNat < 256 := b.toNat_lt
      have hc : c.toNat < 256 := c.toNat_lt
      rw [if_neg (by simp)]
      simp only [Nat.reduceSub, moreN, List.getD_cons_succ, List.getD_cons_zero, List.take_succ_cons, List.take_zero]
      have g0 : ¬ a.toNat < 128 := by omega
      have g1 : (a.toNat / 32 == 6) = false := by simp; omega
      have g2 : (a.toNat / 16 == 14) = true := by simp; omega
      have g3 : (a.toNat / 8 == 30) = false := by simp; omega
      have em : 64 * (64 * (a.toNat - 224) + b.toNat % 64) + c.toNat % 64 = a.toNat % 16 * 4096 + b.toNat % 64 * 64 + c.toNat % 64 := by omega
      generalize hn : a.toNat % 16 * 4096 + b.toNat % 64 * 64 + c.toNat % 64 = m at em
      have e1 : decL (a :: b :: c :: t) = if (b.toNat / 64 = 2 ∧ c.toNat / 64 = 2) ∧ 2048 ≤ m ∧ signB m = true then (m, 3) else (65533, 1) := by
        unfold decL
        simp only [List.getD_cons_zero, List.getD_cons_succ, g0, if_false, g1, g2, g3, List.length_cons, Bool.false_and, Bool.true_and, Bool.false_eq_true, hn, valid_sign]
        by_cases q1 : b.toNat / 64 = 2 <;> by_cases q2 : c.toNat / 64 = 2 <;> by_cases q3 : 2048 ≤ m <;> cases q4 : signB m <;> simp [q1, q2, q3]
      rw [e1, em]
      by_cases q : (b.toNat / 64 = 2 ∧ c.toNat / 64 = 2) ∧ 2048 ≤ m ∧ signB m = true
      · have e2 : bytesN m = [a, b, c] := by
          unfold bytesN
          rw [if_neg (by omega), if_neg (by omega), if_pos (by omega), (u8 a _).2 (by omega), (u8 b _).2 (by omega), (u8 c _).2 (by omega)]
        rw [if_pos q, e2, q.2.2]; simp
      · rw [if_neg q]
        cases hsg : signB m
        · simp
        · have e2 : bytesN m ≠ [a, b, c] := by
            unfold bytesN
            split
            · simp
            · split
              · simp
              · rw [if_pos (by omega)]
                intro e
                injection e with e4 e5
                injection e5 with e6 e7
                injection e7 with e8 _
                rw [u8] at e4 e6 e8
                exact q ⟨by omega, by omega, hsg⟩
          simp [e2]
  · rw [k, n]
    have g0 : ¬ a.toNat < 128 := by omega
    have g1 : (a.toNat / 32 == 6) = false := by simp; omega
    have g2 : (a.toNat / 16 == 14) = false := by simp; omega
    rcases t with _ | ⟨b, _ | ⟨c, _ | ⟨d, t⟩⟩⟩
    · have e1 : decL [a] = (65533, 1) := by unfold decL; simp [g0]
      rw [e1]; simp
    · have e1 : decL [a, b] = (65533, 1) := by unfold decL; simp [g0, g1]
      rw [e1]; simp
    · have e1 : decL [a, b, c] = (65533, 1) := by unfold decL; simp [g0, g1, g2]
      rw [e1]; simp
    · have hb : b.toNat < 256 := b.toNat_lt
      have hc : c.toNat < 256 := c.toNat_lt
      have hd : d.toNat < 256 := d.toNat_lt
      rw [if_neg (by simp)]
      simp only [Nat.reduceSub, moreN, List.getD_cons_succ, List.getD_cons_zero, List.take_succ_cons, List.take_zero]
      have em : 64 * (64 * (64 * (a.toNat - 240) + b.toNat % 64) + c.toNat % 64) + d.toNat % 64 = (a.toNat - 240) * 262144 + b.toNat % 64 * 4096 + c.toNat % 64 * 64 + d.toNat % 64 := by omega
      generalize hn : (a.toNat - 240) * 262144 + b.toNat % 64 * 4096 + c.toNat % 64 * 64 + d.toNat % 64 = m at em
      have e1 : decL (a :: b :: c :: d :: t) = if (b.toNat / 64 = 2 ∧ c.toNat / 64 = 2 ∧ d.toNat / 64 = 2) ∧ 65536 ≤ m ∧ signB m = true then (m, 4) else (65533, 1) := by
        by_cases g3 : a.toNat / 8 = 30
        · have hm : a.toNat % 8 * 262144 + b.toNat % 64 * 4096 + c.toNat % 64 * 64 + d.toNat % 64 = m := by rw [show a.toNat % 8 = a.toNat - 240 by omega]; exact hn
          unfold decL
          simp only [List.getD_cons_zero, List.getD_cons_succ, g0, if_false, g1, g2, g3, List.length_cons, Bool.false_and, Bool.true_and, Bool.false_eq_true, hm, valid_sign, beq_self_eq_true]
          by_cases q1 : b.toNat / 64 = 2 <;> by_cases q2 : c.toNat / 64 = 2 <;> by_cases q5 : d.toNat / 64 = 2 <;> by_cases q3 : 65536 ≤ m <;> cases q4 : signB m <;> simp [q1, q2, q3, q5]
        · have hsg : signB m = false := by unfold signB; simp; omega
          unfold decL
          simp [g0, g1, g2, g3, hsg]
      rw [e1, em]
      by_cases q : (b.toNat / 64 = 2 ∧ c.toNat / 64 = 2 ∧ d.toNat / 64 = 2) ∧ 65536 ≤ m ∧ signB m = true
      · have hm := q.2.2
        have e0 : m ≤ 1114111 := by
          unfold signB at hm
          rw [Bool.and_eq_true] at hm
          exact of_decide_eq_true hm.1
        have e2 : bytesN m = [a, b, c, d] := by
          unfold bytesN
          obtain ⟨p1, p2, p3, p4⟩ := parts4 _ _ _ _ m (Nat.mod_lt _ (by decide)) (Nat.mod_lt _ (by decide)) (Nat.mod_lt _ (by decide)) hn
          have q1 := q.1
          rw [if_neg (by omega), if_neg (by omega), if_neg (by omega), p1, p2, p3, p4]
          clear hn p1 p2 p3 p4 em q hm e1
          rw [(u8 a _).2 (by omega), (u8 b _).2 (by omega), (u8 c _).2 (by omega), (u8 d _).2 (by omega)]
        rw [if_pos q, e2, q.2.2]; simp
      · rw [if_neg q]
        cases hsg : signB m
        · simp
        · have e0 : m ≤ 1114111 := by
            unfold signB at hsg
            rw [Bool.and_eq_true] at hsg
            exact of_decide_eq_true hsg.1
          have e2 : bytesN m ≠ [a, b, c, d] := by
            unfold bytesN
            split
            · simp
            · split
              · simp
              · split
                · simp
                · intro e
                  injection e with e4 e5
                  injection e5 with e6 e7
                  injection e7 with e8 e9
                  injection e9 with e10 _
                  rw [u8] at e4 e6 e8 e10
                  exact q ⟨by omega, by omega, hsg⟩
          simp [e2]
end Go.Proofs.YtjmpkbmgcbalkaaGreatDoor.Rf
/- latinerref04, walked: which texts are right. Conditions: texts of at most 10^9 bytes. -/
namespace Go.Proofs.YtjmpkbmgcbalkaaGreatDoor.Rf
open Go.RowKit
set_option linter.unusedVariables false
variable {X : En}
theorem moreN_le (l : List UInt8) (n : Nat) : ∀ j, moreN l n j < (n + 1) * 64 ^ j
  | 0 => by simp [moreN]
  | j + 1 => by
    have := moreN_le l n j
    have h2 := Nat.mod_lt (l.getD (j + 1) 0).toNat (show 0 < 64 by decide)
    rw [moreN, Nat.pow_succ, ← Nat.mul_assoc]
    omega
theorem take_extract (s : ByteArray) (a k : Nat) (l : List UInt8) (h : a + k ≤ s.size) : (⟨l.toArray⟩ : ByteArray) = s.extract a (a + k) ↔ l = (s.data.toList.drop a).take k := by
  have e : (s.extract a (a + k)).data.toList = (s.data.toList.drop a).take k := by
    rw [ByteArray.data_extract, Array.toList_extract, List.extract_eq_take_drop, Nat.add_sub_cancel_left]
  constructor
  · intro h; rw [← e, ← h]
  · intro h
    have : (s.extract a (a + k)) = ⟨l.toArray⟩ := by
      obtain ⟨d, hd⟩ : ∃ d, d = s.extract a (a + k) := ⟨_, rfl⟩
      rw [← hd] at e ⊢
      obtain ⟨d⟩ := d
      rw [h, ← e]
    exact this.symm
theorem sign_fn (n : Nat) : Fn Tryz.prog X 126 [.v (.int .i64 n)] (.v (.bool (signB n))) := by
  refine fn_prog tabOk mixed Tryz.f126 Tryz.func126 (by kernel_rfl) (by kernel_rfl) ?_
  conv => whnf
  (repeat' (first | (refine ⟨rfl, cmp_split (fun h => ?_) (fun h => ?_)⟩ <;> (conv => whnf)) | fail))
  all_goals exact ⟨.inl (congrArg V.bool (by unfold signB; simp; omega)), rfl⟩
theorem bytes_fn (n : Nat) (hn : n ≤ 2000000) : Fn Tryz.prog X 127 [.v (.int .i64 n)] (.v (.str ⟨(bytesN n).toArray⟩)) := by
  refine fn_prog tabOk mixed Tryz.f127 Tryz.func127 (by kernel_rfl) (by kernel_rfl) ?_
  conv => whnf
  refine ⟨rfl, cmp_split (fun h => ?_) (fun h => ?_)⟩
  · conv => whnf
    refine st_eq ?_
    conv => whnf
    refine ⟨_, rfl, ?_⟩
    conv => whnf
    refine ⟨.inl (congrArg V.str ?_), rfl⟩
    unfold bytesN
    rw [if_pos (by omega), ofNat_wrap]
  · conv => whnf
    refine ⟨rfl, cmp_split (fun h2 => ?_) (fun h2 => ?_)⟩
    · conv => whnf
      refine st_div n 64 (by decide) (by omega) ?_
      conv => whnf
      refine st_add 192 (n / 64) (by omega) ?_
      conv => whnf
      refine st_eq ?_
      conv => whnf
      refine st_mod n 64 (by decide) ?_
      conv => whnf
      refine st_add 128 (n % 64) (by omega) ?_
      conv => whnf
      refine st_eq ?_
      conv => whnf
      refine ⟨_, rfl, ?_⟩
      conv => whnf
      refine ⟨.inl (congrArg V.str ?_), rfl⟩
      unfold bytesN
      rw [if_neg (by omega), if_pos (by omega), ofNat_wrap, ofNat_wrap]
    · conv => whnf
      refine ⟨rfl, cmp_split (fun h3 => ?_) (fun h3 => ?_)⟩
      · conv => whnf
        refine st_div n 4096 (by decide) (by omega) ?_
        conv => whnf
        refine st_add 224 (n / 4096) (by omega) ?_
        conv => whnf
        refine st_eq ?_
        conv => whnf
        refine st_div n 64 (by decide) (by omega) ?_
        conv => whnf
        refine st_mod (n / 64) 64 (by decide) ?_
        conv => whnf
        refine st_add 128 (n / 64 % 64) (by omega) ?_
        conv => whnf
        refine st_eq ?_
        conv => whnf
        refine st_mod n 64 (by decide) ?_
        conv => whnf
        refine st_add 128 (n % 64) (by omega) ?_
        conv => whnf
        refine st_eq ?_
        conv => whnf
        refine ⟨_, rfl, ?_⟩
        conv => whnf
        refine ⟨.inl (congrArg V.str ?_), rfl⟩
        unfold bytesN
        rw [if_neg (by omega), if_neg (by omega), if_pos (by omega), ofNat_wrap, ofNat_wrap, ofNat_wrap]
      · conv => whnf
        refine st_div n 262144 (by decide) (by omega) ?_
        conv => whnf
        refine st_add 240 (n / 262144) (by omega) ?_
        conv => whnf
        refine st_eq ?_
        conv => whnf
        refine st_div n 4096 (by decide) (by omega) ?_
        conv => whnf
        refine st_mod (n / 4096) 64 (by decide) ?_
        conv => whnf
        refine st_add 128 (n / 4096 % 64) (by omega) ?_
        conv => whnf
        refine st_eq ?_
        conv => whnf
        refine st_div n 64 (by decide) (by omega) ?_
        conv => whnf
        refine st_mod (n / 64) 64 (by decide) ?_
        conv => whnf
        refine st_add 128 (n / 64 % 64) (by omega) ?_
        conv => whnf
        refine st_eq ?_
        conv => whnf
        refine st_mod n 64 (by decide) ?_
        conv => whnf
        refine st_add 128 (n % 64) (by omega) ?_
        conv => whnf
        refine st_eq ?_
        conv => whnf
        refine ⟨_, rfl, ?_⟩
        conv => whnf
        refine ⟨.inl (congrArg V.str ?_), rfl⟩
        unfold bytesN
        rw [if_neg (by omega), if_neg (by omega), if_neg (by omega), ofNat_wrap, ofNat_wrap, ofNat_wrap, ofNat_wrap]
set_option maxHeartbeats 1000000 in
theorem one_fn (s : ByteArray) (a : Nat) (hs : s.size ≤ 1000000000) (ha : a < s.size) : Fn Tryz.prog X 121 [.v (.str s), .v (.int .i64 a)] (.tup [.v (.int .i64 (oneN (s.data.toList.drop a)).1), .v (.int .i64 (oneN (s.data.toList.drop a)).2)]) := by
  have hg : ∀ j, (s.data.toList.drop a).getD j 0 = s.data.toList.getD (a + j) 0 := fun j => by simp [List.getD_eq_getElem?_getD, List.getElem?_drop]
  have hl : (s.data.toList.drop a).length = s.size - a := by simp
  obtain ⟨l, hL⟩ : ∃ l, l = s.data.toList.drop a := ⟨_, rfl⟩
  obtain ⟨c, hc⟩ : ∃ c, c = s.data.toList.getD a 0 := ⟨_, rfl⟩
  have hc0 : l.getD 0 0 = c := by rw [hL, hg, hc]; rfl
  have hcl := c.toNat_lt
  rw [← hL] at hg hl ⊢
  have hone : oneN l = if l.length < leadK c.toNat then (0, 0) else if signB (moreN l (leadN c.toNat) (leadK c.toNat - 1)) && decide (bytesN (moreN l (leadN c.toNat) (leadK c.toNat - 1)) = l.take (leadK c.toNat)) then (moreN l (leadN c.toNat) (leadK c.toNat - 1), leadK c.toNat) else (0, 0) := by
    unfold oneN; rw [hc0]
  obtain ⟨k, hk⟩ : ∃ k, k = leadK c.toNat := ⟨_, rfl⟩
  obtain ⟨n, hn⟩ : ∃ n, n = leadN c.toNat := ⟨_, rfl⟩
  rw [← hk, ← hn] at hone
  have hk14 : 1 ≤ k ∧ k ≤ 4 ∧ n < 256 := by
    rcases lead_cases c.toNat hcl with ⟨h1, k1, n1⟩ | ⟨h1, h2, k1, n1⟩ | ⟨h1, h2, k1, n1⟩ | ⟨h1, k1, n1⟩ <;> omega
  have hm : ∀ j, j ≤ 3 → moreN l n j ≤ 67108864 := fun j hj => by
    have h1 := moreN_le l n j
    have h2 : 64 ^ j ≤ 64 ^ 3 := Nat.pow_le_pow_right (by decide) hj
    have h3 : (n + 1) * 64 ^ j ≤ 256 * 64 ^ 3 := Nat.mul_le_mul (by omega) h2
    omega
  refine fn_prog tabOk mixed Tryz.f121 Tryz.func121 (by kernel_rfl) (by kernel_rfl) ?_
  conv => whnf
  refine st_getD ha ?_
  rw [← hc]
  conv => whnf
  refine st_int c ?_
  conv => whnf
  rcases lead_cases c.toNat hcl with ⟨h1, k1, n1⟩ | ⟨h1, h2, k1, n1⟩ | ⟨h1, h2, k1, n1⟩ | ⟨h1, k1, n1⟩
  focus
    refine ⟨rfl, cmp_false (by omega) ?_⟩
    conv => whnf
    refine ⟨rfl, cmp_false (by omega) ?_⟩
    conv => whnf
    refine ⟨rfl, cmp_false (by omega) ?_⟩
    conv => whnf
    refine st_minus s.size a (by omega) (by omega) ?_
    conv => whnf
  rotate_left
  focus
    refine ⟨rfl, cmp_false (by omega) ?_⟩
    conv => whnf
    refine ⟨rfl, cmp_false (by omega) ?_⟩
    conv => whnf
    refine ⟨rfl, cmp_true (by omega) ?_⟩
    conv => whnf
    refine st_minus c.toNat 192 (by omega) (by omega) ?_
    conv => whnf
    refine st_minus s.size a (by omega) (by omega) ?_
    conv => whnf
  rotate_left
  focus
    refine ⟨rfl, cmp_false (by omega) ?_⟩
    conv => whnf
    refine ⟨rfl, cmp_true (by omega) ?_⟩
    conv => whnf
    refine st_minus c.toNat 224 (by omega) (by omega) ?_
    conv => whnf
    refine st_minus s.size a (by omega) (by omega) ?_
    conv => whnf
  rotate_left
  focus
    refine ⟨rfl, cmp_true (by omega) ?_⟩
    conv => whnf
    refine st_minus c.toNat 240 (by omega) (by omega) ?_
    conv => whnf
    refine st_minus s.size a (by omega) (by omega) ?_
    conv => whnf
  rotate_left
  all_goals
    refine ⟨rfl, cmp_split (fun h => ?_) (fun h => ?_)⟩
    · conv => whnf
      rw [hone, if_pos (by omega)]
      exact ⟨⟨.inl rfl, .inl rfl, trivial⟩, rfl⟩
    conv => whnf
    refine ⟨Nat, fun j => ⟨65, [(0, .v (.str s)), (1, .v (.int .i64 (a : Nat))), (6, .v (.int .i64 (k : Nat))), (7, .v (.int .i64 (moreN l n j : Nat))), (8, .v (.int .i64 ((j + 1 : Nat) : Int)))], [], []⟩, fun j => j + 1 ≤ k, fun j => k - j, ⟨0, [], by omega, ?_⟩, fun j hj => ?_⟩
    · exact ⟨rfl, rfl, ⟨.inl rfl, .inl rfl, .inl (by rw [hk, k1]; rfl), .inl (by show V.int _ _ = V.int _ ((n : Nat) : Int); rw [hn, n1]), .inl rfl, trivial⟩, trivial, trivial⟩
    conv => whnf
    refine ⟨rfl, cmp_split (fun h3 => ?_) (fun h3 => ?_)⟩
    · have hmj := hm j (by omega)
      conv => whnf
      refine st_times 64 (moreN l n j) (by omega) ?_
      conv => whnf
      refine st_add a (j + 1) (by omega) ?_
      conv => whnf
      refine st_getD (by omega) ?_
      conv => whnf
      refine st_int _ ?_
      conv => whnf
      refine st_mod _ 64 (by decide) ?_
      conv => whnf
      refine st_add (64 * moreN l n j) ((s.data.toList.getD (a + (j + 1)) 0).toNat % 64) (by omega) ?_
      conv => whnf
      refine st_add (j + 1) 1 (by omega) ?_
      conv => whnf
      refine ⟨j + 1, [], by omega, by dsimp only; omega, ?_⟩
      exact ⟨rfl, rfl, ⟨.inl rfl, .inl rfl, .inl rfl, .inl (by rw [moreN, hg]), .inl rfl, trivial⟩, trivial, trivial⟩
    · have ej : k - 1 = j := by omega
      rw [ej] at hone
      conv => whnf
      have hmj := hm j (by omega)
      refine ⟨some [0, 1, 2, 3, 4, 6, 7, 8, 9, 10, 11, 5, 12, 13], by kernel_rfl, ?_⟩; conv => whnf
      cases hsg : signB (moreN l n j)
      · rw [hsg, Bool.false_and, if_neg (by omega), if_neg (by decide)] at hone
        refine st_call (r := .v (.bool false)) (hsg ▸ sign_fn (moreN l n j)) ?_ rfl rfl ?_
        · exact ⟨.inl rfl, trivial⟩
        conv => whnf
        rw [hone]
        exact ⟨⟨.inl rfl, .inl rfl, trivial⟩, rfl⟩
      · rw [hsg, Bool.true_and, if_neg (by omega)] at hone
        refine st_call (r := .v (.bool true)) (hsg ▸ sign_fn (moreN l n j)) ?_ rfl rfl ?_
        · exact ⟨.inl rfl, trivial⟩
        conv => whnf
        refine st_add a k (by omega) ?_
        conv => whnf
        refine st_cut a (a + k) rfl rfl (by omega) (by omega) ?_
        conv => whnf
        refine st_call (bytes_fn (moreN l n j) ?_) ?_ rfl rfl ?_
        · unfold signB at hsg
          rw [Bool.and_eq_true] at hsg
          have := of_decide_eq_true hsg.1
          omega
        · exact ⟨.inl rfl, trivial⟩
        conv => whnf
        refine cmp_split (fun h4 => ?_) (fun h4 => ?_)
        · conv => whnf
          rw [ne_eq, take_extract s a k _ (by omega), ← hL] at h4
          rw [hone, if_neg (by simpa using h4)]
          exact ⟨⟨.inl rfl, .inl rfl, trivial⟩, rfl⟩
        · conv => whnf
          rw [ne_eq, Decidable.not_not, take_extract s a k _ (by omega), ← hL] at h4
          rw [hone, if_pos (by simpa using h4)]
          exact ⟨⟨.inl rfl, .inl rfl, trivial⟩, rfl⟩
/-- the place of the first sign that is none; below 0: all are -/
def badR (s : ByteArray) : Nat → Nat → Int
  | 0, _ => -1
  | f + 1, pos => if pos < s.size then (if (oneN (s.data.toList.drop pos)).2 = 0 then pos else badR s f (pos + (oneN (s.data.toList.drop pos)).2)) else -1
theorem one_at (s : ByteArray) (pos : Nat) (h : pos < s.size) : (oneN (s.data.toList.drop pos)).2 = if (Utf8.decode s pos).1 == 65533 && (Utf8.decode s pos).2 == 1 then 0 else (Utf8.decode s pos).2 := by
  rw [dec_list, Txt.drop_cons s pos h]
  exact one_decL _ _
theorem dec_pos (s : ByteArray) (pos : Nat) : 1 ≤ (Utf8.decode s pos).2 := by
  unfold Utf8.decode
  dsimp only
  repeat' split
  all_goals simp
theorem badR_utf (s : ByteArray) : ∀ f pos, (badR s f pos < 0) = (Utf.utfR s f pos = true)
  | 0, pos => by simp [badR, Utf.utfR]
  | f + 1, pos => by
    rw [badR, Utf.utfR]
    by_cases h : pos < s.size
    · rw [if_pos h, if_pos h, one_at s pos h]
      have hp := dec_pos s pos
      cases hb : ((Utf8.decode s pos).1 == 65533 && (Utf8.decode s pos).2 == 1)
      · simp only [Bool.false_eq_true, if_false]
        rw [if_neg (by omega)]
        exact badR_utf s f _
      · simp
    · simp [h]
theorem badR_more (s : ByteArray) : ∀ f g pos, s.size ≤ pos + f → s.size ≤ pos + g → badR s f pos = badR s g pos
  | 0, 0, _, _, _ => rfl
  | 0, g + 1, pos, h, _ => by rw [badR, badR, if_neg (by omega)]
  | f + 1, 0, pos, _, h => by rw [badR, badR, if_neg (by omega)]
  | f + 1, g + 1, pos, h1, h2 => by
    rw [badR, badR]
    split
    · split
      · rfl
      · exact badR_more s f g _ (by omega) (by omega)
    · rfl
theorem oneN_le (s : ByteArray) (pos : Nat) (h : pos < s.size) : pos + (oneN (s.data.toList.drop pos)).2 ≤ s.size := by
  unfold oneN
  split
  · simp; omega
  · rename_i hh
    have : (s.data.toList.drop pos).length = s.size - pos := by simp
    split
    · dsimp only; omega
    · simp; omega
theorem bad_fn (s : ByteArray) (hs : s.size ≤ 1000000000) : Fn Tryz.prog X 112 [.v (.str s)] (.v (.int .i64 (badR s s.size 0))) := by
  refine fn_prog tabOk mixed Tryz.f112 Tryz.func112 (by kernel_rfl) (by kernel_rfl) ?_
  conv => whnf
  refine ⟨Nat, fun k => ⟨22, [(0, .v (.str s)), (3, .v (.int .i64 (k : Nat)))], [], []⟩, fun k => k ≤ s.size ∧ badR s s.size 0 = badR s (s.size - k) k, fun k => s.size - k, ⟨0, [], ⟨by omega, rfl⟩, ?_⟩, fun k ⟨hk, hb⟩ => ?_⟩
  · exact ⟨rfl, rfl, ⟨.inl rfl, .inl rfl, trivial⟩, trivial, trivial⟩
  conv => whnf
  refine ⟨rfl, cmp_split (fun h => ?_) (fun h => ?_)⟩
  · have hkl : k < s.size := by omega
    conv => whnf
    refine st_call (one_fn s k hs hkl) ?_ rfl rfl ?_
    · exact ⟨.inl rfl, .inl rfl, trivial⟩
    conv => whnf
    obtain ⟨f, hf⟩ : ∃ f, s.size - k = f + 1 := ⟨s.size - k - 1, by omega⟩
    rw [hf, badR, if_pos hkl] at hb
    have hle := oneN_le s k hkl
    refine ⟨rfl, cmp_split (fun h2 => ?_) (fun h2 => ?_)⟩
    · conv => whnf
      rw [if_pos (by omega)] at hb
      exact ⟨.inl (by rw [hb]), rfl⟩
    · conv => whnf
      rw [if_neg (by omega)] at hb
      refine st_add k _ (by omega) ?_
      conv => whnf
      refine ⟨k + (oneN (s.data.toList.drop k)).2, [], ⟨hle, hb.trans (badR_more s _ _ _ (by omega) (by omega))⟩, by dsimp only; omega, ?_⟩
      exact ⟨rfl, rfl, ⟨.inl rfl, .inl rfl, trivial⟩, trivial, trivial⟩
  · conv => whnf
    rw [show s.size - k = 0 by omega, badR] at hb
    exact ⟨.inl (by rw [hb]), rfl⟩
theorem right_fn (s : ByteArray) (hs : s.size ≤ 1000000000) : Fn Tryz.prog X 98 [.v (.str s)] (.v (.bool (Utf.utfB s))) := by
  refine fn_prog tabOk mixed Tryz.f98 Tryz.func98 (by kernel_rfl) (by kernel_rfl) ?_
  conv => whnf
  refine st_call (bad_fn s hs) ?_ rfl rfl ?_
  · exact ⟨.inl rfl, trivial⟩
  conv => whnf
  have hu := badR_utf s s.size 0
  refine ⟨rfl, cmp_split (fun h => ?_) (fun h => ?_)⟩
  · conv => whnf
    exact ⟨.inl (by rw [show Utf.utfB s = true from hu ▸ h]), rfl⟩
  · conv => whnf
    exact ⟨.inl (by rw [show Utf.utfB s = false by cases hq : Utf.utfB s; rfl; exact absurd (hu ▸ hq) h]), rfl⟩
end Go.Proofs.YtjmpkbmgcbalkaaGreatDoor.Rf
