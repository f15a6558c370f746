/- Several texts, one behind the other. esc: isOne, isPlain; bytes goes through a text. Conditions: the slice reads as it lies. Contracts of functions of Go's library, as the kit's shelf proves them of whatever program, at this program's numbers. Each states its own conditions. -/
import Derived.Test.YtjmpkbmgcbalkaaGreatDoorM12
import Derived.Test.YtjmpkbmgcbalkaaGreatDoorM06
import Derived.OwnWalkIn
import Derived.RangeFuncBox
import Derived.Shelf.Strings.BuilderK
import Derived.Test.YtjmpkbmgcbalkaaGreatDoorProg
/- esc: isOne, isPlain; bytes goes through a text. Conditions: the slice reads as it lies. -/
namespace Go.Proofs.YtjmpkbmgcbalkaaGreatDoor.Esc
open Go.RowKit
set_option linter.unusedVariables false
theorem one_calls (b : UInt8) (v : Value) (l : List UInt8) (w : World) (hv : VSlice 1 VByte w (fun _ => True) [v] l) (hl : l.length ≤ 1000000) : Calls Tryz.prog 52 #[.int .u8 b.toNat, v] w fun e w' => e = .returned (.bool (l.contains b)) ∧ w = w' := by
  obtain ⟨A, c, rfl, _, hx⟩ := hv.open
  have HX := Aside.mk hx
  clear hx hv
  go_enter Tryz.func52, Tryz.ntmps52
  go_wp2_with fail
  go_loopg [9] l.length (fun gk v9 wr => ∃ (k : Nat), v9 = .int .i64 k ∧ wr = w ∧ Aside (k + gk = l.length ∧ (l.take k).contains b = false))
  case atStart => exact ⟨0, rfl, rfl, ⟨by omega, by simp⟩⟩
  case round =>
    obtain ⟨k, rfl, rfl, HI⟩ := hrel
    obtain ⟨i1, i2⟩ := HI.out
    have I2 := Aside.mk i2
    clear HI i2
    by_cases hk : k < l.length
    · obtain ⟨m, rfl⟩ : ∃ m, gk = m + 1 := ⟨gk - 1, by omega⟩
      have hki : (k : Int) < (l.length : Int) := by omega
      obtain ⟨bb, o, rfl, _, hbl, hcell⟩ := HX.out (by rintro rfl; simp at hk)
      obtain ⟨ws, e1, e2⟩ := hcell k l[k] (List.getElem?_eq_getElem hk)
      have e1' : ws = [.int .u8 l[k].toNat] := e1
      subst e1'
      have ck : wr.cell? ⟨bb, o + k, none⟩ = some (.int .u8 l[k].toNat) := by
        have := e2 0 _ rfl
        simpa using this
      have HT := Aside.mk (show (l.take (k + 1)).contains b = (b == l[k]) by rw [List.take_succ_eq_append_getElem hk, List.contains_append, I2.out]; simp only [List.contains_cons, List.contains_nil, Bool.or_false, Bool.false_or])
      have HM := Aside.mk (List.getElem_mem hk)
      generalize l[k] = x at ck HT HM
      clear e1 e2 hcell
      by_cases hbx : b = x
      · have q : ((b.toNat : Int) == (x.toNat : Int)) = true := by rw [hbx]; simp
        have HQ := Aside.mk (show l.contains b = true by rw [List.contains_iff_mem, hbx]; exact HM.out)
        clear hbx
        go_wp2
        go_ret
        exact ⟨by rw [HQ.out]; rfl, rfl⟩
      · have q : ((b.toNat : Int) == (x.toNat : Int)) = false := by
          simp only [beq_eq_false_iff_ne]
          intro e
          exact hbx (UInt8.toNat_inj.1 (by omega))
        have HQ := Aside.mk (show (b == x) = false by simp [hbx])
        clear hbx
        go_wp2
        go_roundg m
        case measure => omega
        case rel => exact ⟨k + 1, by go_num, rfl, ⟨by omega, by rw [HT.out, HQ.out]⟩⟩
    · have hk2 : (l.length : Int) ≤ (k : Int) := by omega
      have HE := Aside.mk (show l.contains b = false by have := I2.out; rwa [List.take_of_length_le (by omega)] at this)
      clear hk
      go_wp2
      go_ret
      exact ⟨by rw [HE.out]; rfl, rfl⟩
def plainB (b : UInt8) : Bool := decide (32 ≤ b.toNat) && decide (b.toNat ≤ 126)
theorem plain_calls (b : UInt8) (w : World) : Calls Tryz.prog 53 #[.int .u8 b.toNat] w fun e w' => e = .returned (.bool (plainB b)) ∧ w = w' := by
  by_cases h1 : 32 ≤ b.toNat <;> by_cases h2 : b.toNat ≤ 126
  all_goals
    have z1 : (32 : Int) ≤ (b.toNat : Int) ↔ 32 ≤ b.toNat := by omega
    have z2 : (b.toNat : Int) ≤ 126 ↔ b.toNat ≤ 126 := by omega
    go_enter Tryz.func53, Tryz.ntmps53
    go_wp2
    all_goals first | (exfalso; omega) | (go_ret; exact ⟨by simp [plainB, h1, h2], rfl⟩)
theorem bytes_maker (s : ByteArray) (w : World) :
    Calls Tryz.prog 70 #[.string s] w fun e w' => e = .returned (.func (.func 91) #[] #[.pointer (some ⟨w.heap.size, 0, none⟩)]) ∧ w.alloc (.cells #[.string s] 9) = w' := by
  go_enter Tryz.func70, Tryz.ntmps70
  go_wp2
  go_ret
  exact ⟨rfl, rfl⟩
attribute [local go_sem] Oper.semAt_some
/-- the walk of what bytes gives: each byte, with its place; J: what holds between two rounds -/
theorem bytes_iter {l0 Bx : Nat} {s : ByteArray} (hs : s.size ≤ 1000000000) (J : List UInt8 → World → Prop) (hJx : ∀ pre W, J pre W → W.cell? ⟨Bx, 0, none⟩ = some (.string s))
    (hY : ∀ k (hk : k < s.size) W, J (s.data.toList.take k) W → ∃ fn tmps assign body, (Instr.yield l0 #[.int .i64 k, .int .u8 s[k].toNat]).run Tryz.prog W = .ok (.round l0 fn tmps assign body) W ∧ RoundIn Fence.wide 0 Tryz.prog l0 fn tmps assign body W (fun e W' => e = .returned (.bool true) ∧ J (s.data.toList.take (k + 1)) W'))
    (W : World) (h0 : J [] W) :
    Calls Tryz.prog 91 #[.func (.yield l0) #[] #[], .pointer (some ⟨Bx, 0, none⟩)] W fun e W' => (∃ v, e = .returned v) ∧ J s.data.toList W' := by
  have c0 := hJx [] W h0
  have HSL := Aside.mk (Txt.size_list s)
  go_enter Tryz.func91, Tryz.ntmps91
  go_wp2
  go_step3
  go_wp2
  go_step3
  go_wp2
  go_loopg [6] s.size (fun gk v6 wr => ∃ k : Nat, v6 = .int .i64 k ∧ Aside (k + gk = s.size ∧ J (s.data.toList.take k) wr))
  case atStart => exact ⟨0, rfl, ⟨by omega, h0⟩⟩
  case round =>
    obtain ⟨k, rfl, HI⟩ := hrel
    obtain ⟨i1, i2⟩ := HI.out
    have I2 := Aside.mk i2
    clear HI i2 c0
    have c0 := hJx _ _ I2.out
    by_cases hk : k < s.size
    · obtain ⟨m, rfl⟩ : ∃ m, gk = m + 1 := ⟨gk - 1, by omega⟩
      have hki : (k : Int) < (s.size : Int) := by omega
      obtain ⟨fn, tm, asg, bo, hy, hR⟩ := hY k hk wr I2.out
      have HRR := Aside.mk hR
      clear hR
      refine (wpIn_wide (n := 1)).1 ?_
      gi_wp2_with fail
      refine HRR.out.mono ?_
      rintro e w3 ⟨rfl, hJ3⟩
      have HJ3 := Aside.mk hJ3
      clear hJ3 hy
      gi_wp2
      go_roundg m
      case measure => omega
      case rel => exact ⟨k + 1, by go_num, ⟨by omega, HJ3.out⟩⟩
    · have hk2 : (s.size : Int) ≤ (k : Int) := by omega
      have HE := Aside.mk (show J s.data.toList wr by have := I2.out; rwa [List.take_of_length_le (by have := HSL.out; omega)] at this)
      clear hk
      go_wp2
      rw [Exit.noGoto_normal]
      go_end0
      exact ⟨⟨_, rfl⟩, HE.out⟩
end Go.Proofs.YtjmpkbmgcbalkaaGreatDoor.Esc
/- Contracts of functions of Go's library, as the kit's shelf proves them of whatever program, at this program's numbers. Each states its own conditions. -/
namespace Go.Proofs.YtjmpkbmgcbalkaaGreatDoor
open Go.Shelf
def Shelf.Laysn167_ren : Go.Shelf.Ren := ⟨fun | 167 => 71 | 240 => 92 | 276 => 108 | n => n, fun | 0 => 0 | 4 => 4 | 5 => 5 | 9 => 9 | 20 => 20 | 37 => 68 | 70 => 90 | 72 => 92 | 75 => 49 | 80 => 100 | 164 => 105 | n => n, fun  | n => n⟩
theorem Shelf.Laysn167 : Go.Proofs.Lays.n167 Tryz.prog Shelf.Laysn167_ren := {
  mixed := by kernel_rfl
  f167 := Tryz.func71.trans (congrArg some (by kernel_rfl))
  f240 := Tryz.func92.trans (congrArg some (by kernel_rfl))
  f276 := Tryz.func108.trans (congrArg some (by kernel_rfl))
  t0 := Tryz.underlying0
  a0 := Tryz.isAgg0
  z0 := Tryz.sizeOf0
  v0 := Tryz.zeroValue0
  t4 := Tryz.underlying4
  a4 := Tryz.isAgg4
  z4 := Tryz.sizeOf4
  v4 := Tryz.zeroValue4
  t5 := Tryz.underlying5
  a5 := Tryz.isAgg5
  z5 := Tryz.sizeOf5
  v5 := Tryz.zeroValue5
  t9 := Tryz.underlying9
  a9 := Tryz.isAgg9
  z9 := Tryz.sizeOf9
  v9 := Tryz.zeroValue9
  t20 := Tryz.underlying20
  a20 := Tryz.isAgg20
  z20 := Tryz.sizeOf20
  v20 := Tryz.zeroValue20
  t37 := Tryz.underlying68
  a37 := Tryz.isAgg68
  z37 := Tryz.sizeOf68
  v37 := Tryz.zeroValue68
  t70 := Tryz.underlying90
  a70 := Tryz.isAgg90
  z70 := Tryz.sizeOf90
  v70 := Tryz.zeroValue90
  t72 := Tryz.underlying92
  a72 := Tryz.isAgg92
  z72 := Tryz.sizeOf92
  v72 := Tryz.zeroValue92
  t75 := Tryz.underlying49
  a75 := Tryz.isAgg49
  z75 := Tryz.sizeOf49
  v75 := Tryz.zeroValue49
  t164 := Tryz.underlying105
  a164 := Tryz.isAgg105
  z164 := Tryz.sizeOf105
  v164 := Tryz.zeroValue105 }
theorem Shelf.Builder_Extra_Laysn167 : Builder.Extra Tryz.prog Shelf.Laysn167_ren := {
  sizeBuilder := by kernel_rfl
  liesBuilder := by kernel_rfl
  t5 := Tryz.underlying5
  a5 := Tryz.isAgg5
  z5 := Tryz.sizeOf5
  v5 := Tryz.zeroValue5
  infoByte := by kernel_rfl
  cellsByte := by kernel_rfl
  sizeByte := by kernel_rfl
  neB5 := by decide }
open Go.RowKit in
theorem Shelf.Builder_WriteByte_k  (B b : Nat) (bs : List Value) (c : Int) (w : World) (h : Lib.IsBuilderF 92 5 B b bs w) (hlen : bs.length + 1 ≤ 140737488355328) (hBw : B ≤ w.heap.size) :
    Calls Tryz.prog 71 #[.pointer (some ⟨b, 0, none⟩), .int .u8 c] w fun e w' => e = .returned .nilIface ∧ (Lib.BuilderAtF 92 5 B b (.pointer (some ⟨b, 0, none⟩)) (bs ++ [.int .u8 c]) w' ∧ Below B w w' ∧ Lib.OthersKept 5 (some b) w w') := Any.Builder_WriteByte_k Shelf.Laysn167 Shelf.Builder_Extra_Laysn167 B b bs c w h hlen hBw
def Shelf.Laysn166_ren : Go.Shelf.Ren := ⟨fun | 166 => 72 | 240 => 92 | 276 => 108 | n => n, fun | 0 => 0 | 3 => 3 | 4 => 4 | 5 => 5 | 9 => 9 | 20 => 20 | 37 => 68 | 70 => 90 | 72 => 92 | 75 => 49 | 80 => 100 | 164 => 105 | n => n, fun  | n => n⟩
theorem Shelf.Laysn166 : Go.Proofs.Lays.n166 Tryz.prog Shelf.Laysn166_ren := {
  mixed := by kernel_rfl
  f166 := Tryz.func72.trans (congrArg some (by kernel_rfl))
  f240 := Tryz.func92.trans (congrArg some (by kernel_rfl))
  f276 := Tryz.func108.trans (congrArg some (by kernel_rfl))
  t0 := Tryz.underlying0
  a0 := Tryz.isAgg0
  z0 := Tryz.sizeOf0
  v0 := Tryz.zeroValue0
  t3 := Tryz.underlying3
  a3 := Tryz.isAgg3
  z3 := Tryz.sizeOf3
  v3 := Tryz.zeroValue3
  t4 := Tryz.underlying4
  a4 := Tryz.isAgg4
  z4 := Tryz.sizeOf4
  v4 := Tryz.zeroValue4
  t9 := Tryz.underlying9
  a9 := Tryz.isAgg9
  z9 := Tryz.sizeOf9
  v9 := Tryz.zeroValue9
  t20 := Tryz.underlying20
  a20 := Tryz.isAgg20
  z20 := Tryz.sizeOf20
  v20 := Tryz.zeroValue20
  t37 := Tryz.underlying68
  a37 := Tryz.isAgg68
  z37 := Tryz.sizeOf68
  v37 := Tryz.zeroValue68
  t70 := Tryz.underlying90
  a70 := Tryz.isAgg90
  z70 := Tryz.sizeOf90
  v70 := Tryz.zeroValue90
  t72 := Tryz.underlying92
  a72 := Tryz.isAgg92
  z72 := Tryz.sizeOf92
  v72 := Tryz.zeroValue92
  t75 := Tryz.underlying49
  a75 := Tryz.isAgg49
  z75 := Tryz.sizeOf49
  v75 := Tryz.zeroValue49
  t164 := Tryz.underlying105
  a164 := Tryz.isAgg105
  z164 := Tryz.sizeOf105
  v164 := Tryz.zeroValue105 }
theorem Shelf.Builder_Extra_Laysn166 : Builder.Extra Tryz.prog Shelf.Laysn166_ren := {
  sizeBuilder := by kernel_rfl
  liesBuilder := by kernel_rfl
  t5 := Tryz.underlying5
  a5 := Tryz.isAgg5
  z5 := Tryz.sizeOf5
  v5 := Tryz.zeroValue5
  infoByte := by kernel_rfl
  cellsByte := by kernel_rfl
  sizeByte := by kernel_rfl
  neB5 := by decide }
open Go.RowKit in
theorem Shelf.Builder_WriteString_k  (B b : Nat) (bs : List Value) (s : ByteArray) (w : World) (h : Lib.IsBuilderF 92 5 B b bs w) (hlen : bs.length + s.size ≤ 140737488355328) (hBw : B ≤ w.heap.size) :
    Calls Tryz.prog 72 #[.pointer (some ⟨b, 0, none⟩), .string s] w fun e w' => e = .returned (.tuple #[.int .i64 s.size, .nilIface]) ∧ (Lib.BuilderAtF 92 5 B b (.pointer (some ⟨b, 0, none⟩)) (bs ++ Lib.strCells s) w' ∧ Below B w w' ∧ Lib.OthersKept 5 (some b) w w') := Any.Builder_WriteString_k Shelf.Laysn166 Shelf.Builder_Extra_Laysn166 B b bs s w h hlen hBw
def Shelf.Laysn169_ren : Go.Shelf.Ren := ⟨fun | 169 => 73 | n => n, fun | 0 => 0 | 3 => 3 | 5 => 5 | 9 => 9 | 37 => 68 | 70 => 90 | 72 => 92 | 127 => 124 | n => n, fun  | n => n⟩
theorem Shelf.Laysn169 : Go.Proofs.Lays.n169 Tryz.prog Shelf.Laysn169_ren := {
  mixed := by kernel_rfl
  f169 := Tryz.func73.trans (congrArg some (by kernel_rfl))
  t0 := Tryz.underlying0
  a0 := Tryz.isAgg0
  z0 := Tryz.sizeOf0
  v0 := Tryz.zeroValue0
  t3 := Tryz.underlying3
  a3 := Tryz.isAgg3
  z3 := Tryz.sizeOf3
  v3 := Tryz.zeroValue3
  t9 := Tryz.underlying9
  a9 := Tryz.isAgg9
  z9 := Tryz.sizeOf9
  v9 := Tryz.zeroValue9
  t37 := Tryz.underlying68
  a37 := Tryz.isAgg68
  z37 := Tryz.sizeOf68
  v37 := Tryz.zeroValue68
  t70 := Tryz.underlying90
  a70 := Tryz.isAgg90
  z70 := Tryz.sizeOf90
  v70 := Tryz.zeroValue90
  t72 := Tryz.underlying92
  a72 := Tryz.isAgg92
  z72 := Tryz.sizeOf92
  v72 := Tryz.zeroValue92
  t127 := Tryz.underlying124
  a127 := Tryz.isAgg124
  z127 := Tryz.sizeOf124
  v127 := Tryz.zeroValue124 }
theorem Shelf.Builder_Extra_Laysn169 : Builder.Extra Tryz.prog Shelf.Laysn169_ren := {
  sizeBuilder := by kernel_rfl
  liesBuilder := by kernel_rfl
  t5 := Tryz.underlying5
  a5 := Tryz.isAgg5
  z5 := Tryz.sizeOf5
  v5 := Tryz.zeroValue5
  infoByte := by kernel_rfl
  cellsByte := by kernel_rfl
  sizeByte := by kernel_rfl
  neB5 := by decide }
open Go.RowKit in
theorem Shelf.Builder_String_any_k  (B b : Nat) (l : List UInt8) (w : World) (h : Lib.IsBuilderF 92 5 B b (Lib.byteCells l) w) (hBw : B ≤ w.heap.size) :
    Calls Tryz.prog 73 #[.pointer (some ⟨b, 0, none⟩)] w fun e w' => e = .returned (.string ⟨l.toArray⟩) ∧ (Lib.IsBuilderF 92 5 B b (Lib.byteCells l) w' ∧ Below B w w' ∧ Lib.OthersKept 5 (some b) w w') := Any.Builder_String_any_k Shelf.Laysn169 Shelf.Builder_Extra_Laysn169 B b l w h hBw
end Go.Proofs.YtjmpkbmgcbalkaaGreatDoor
