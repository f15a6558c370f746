/- Several texts, one behind the other. code.Hex. Conditions: the text has at most 10^8 bytes. esc: isOne, isPlain; bytes goes through a text. Conditions: the slice reads as it lies. Contracts of functions of Go's library, as the kit's shelf proves them of whatever program, at this program's numbers. Each states its own conditions. -/
import Derived.Test.YtiafggoaedifdaaGreatDoorM13
import Derived.Deep.LoopGhost
import Derived.Deep.RegionHeld3
import Derived.Outline
import Derived.Test.YtiafggoaedifdaaGreatDoorM08
import Derived.OwnWalkIn
import Derived.RangeFuncBox
import Derived.Shelf.Strings.BuilderK
import Derived.Test.YtiafggoaedifdaaGreatDoorProg
/- code.Hex. Conditions: the text has at most 10^8 bytes. -/
namespace Go.Proofs.YtiafggoaedifdaaGreatDoor.Code
open Go.RowKit
set_option linter.unusedVariables false
def hexD (n : Nat) : UInt8 := if n < 10 then UInt8.ofNat (48 + n) else UInt8.ofNat (87 + n)
def hexB (c : UInt8) : List UInt8 := [hexD (c.toNat / 16), hexD (c.toNat % 16)]
def hexL (l : List UInt8) : List UInt8 := l.flatMap hexB
theorem and15 : ∀ n : Fin 256, bits BinOp.and IntKind.u8 ((n.1 : Nat) : Int) 15 = ((n.1 % 16 : Nat) : Int) := by decide +kernel
theorem digit_at (n : Nat) (hn : n < 16) (W : World) : (Instr.index 9 (.string ⟨#[48, 49, 50, 51, 52, 53, 54, 55, 56, 57, 97, 98, 99, 100, 101, 102]⟩) (.int .u8 n)).run Tryz.prog W = .ok (.int .u8 (hexD n).toNat) W := by
  rcases (by omega : n = 0 ∨ n = 1 ∨ n = 2 ∨ n = 3 ∨ n = 4 ∨ n = 5 ∨ n = 6 ∨ n = 7 ∨ n = 8 ∨ n = 9 ∨ n = 10 ∨ n = 11 ∨ n = 12 ∨ n = 13 ∨ n = 14 ∨ n = 15) with rfl | rfl | rfl | rfl | rfl | rfl | rfl | rfl | rfl | rfl | rfl | rfl | rfl | rfl | rfl | rfl <;> kernel_rfl
set_option maxRecDepth 100000 in
set_option maxHeartbeats 4000000 in
theorem hex_calls (s : ByteArray) (w : World) (hs : s.size ≤ 100000000) : Calls Tryz.prog 27 #[.string s] w fun e w' => e = .returned (.string ⟨(hexL s.data.toList).toArray⟩) ∧ Below w.heap.size w w' := by
  have kb := fun W => Lib.run_convert_string_bytes (P := Tryz.prog) W 9 73 5 s Tryz.underlying9 Tryz.underlying73 Tryz.underlying5
  have hsl := Txt.size_list s
  go_enter Tryz.func27, Tryz.ntmps27
  go_wp2_with fail
  have hV := Aside.mk (text_bytes w (fun _ => True) s trivial)
  have hB := Aside.mk (text_below w s)
  have hS : (Lib.bytesWorld w 5 s).heap.size = w.heap.size + 1 := by rw [Lib.bytesWorld_size]
  generalize Lib.bytesWorld w 5 s = W1 at hV hB hS ⊢
  generalize grownCap w s.size 0 5 = cp at hV ⊢
  clear kb
  go_loopg [3, 9] s.size (fun gk v3 v9 wr => ∃ (k : Nat), v9 = .int .i64 k ∧ Aside (k + gk = s.size ∧ OwnV 5 1 VByte wr W1.heap.size (fun b => W1.heap.size ≤ b) v3 (hexL (s.data.toList.take k)) ∧ Below W1.heap.size W1 wr))
  case atStart => exact ⟨0, rfl, ⟨by omega, OwnV.nil _ _ _ _ _ _, Below.refl _ _⟩⟩
  case round =>
    obtain ⟨k, rfl, HI⟩ := hrel
    obtain ⟨i1, i2, i3⟩ := HI.out
    clear HI
    have I2 := Aside.mk i2
    have I3 := Aside.mk i3
    clear i2 i3
    by_cases hk : k < s.size
    · obtain ⟨m, rfl⟩ : ∃ m, gk = m + 1 := ⟨gk - 1, by omega⟩
      have hki : (k : Int) < (s.size : Int) := by omega
      obtain ⟨A, c, eA, _, hx⟩ := hV.out.open
      obtain ⟨b, o, e2, _, hbl, hcell⟩ := hx (by intro e; have := congrArg List.length e; rw [hsl, List.length_nil] at this; omega)
      simp only [Value.slice.injEq] at eA
      obtain ⟨rfl, -, rfl⟩ := eA
      simp only [Option.some.injEq, Addr.mk.injEq, and_true] at e2
      obtain ⟨rfl, rfl⟩ := e2
      obtain ⟨ws, e1, e2⟩ := hcell k s[k] (by rw [List.getElem?_eq_getElem (by omega)]; rfl)
      have e1' : ws = [.int .u8 s[k].toNat] := e1
      subst e1'
      have ck : wr.cell? ⟨w.heap.size, k, none⟩ = some (.int .u8 s[k].toNat) := by
        have := cell_below (e2 0 _ rfl) I3.out
        simpa using this
      have HT := Aside.mk (show hexL (s.data.toList.take (k + 1)) = hexL (s.data.toList.take k) ++ hexB s[k] by rw [Txt.take_snoc s k hk]; simp [hexL])
      have HL := Aside.mk (show (hexL (s.data.toList.take k)).length ≤ 200000000 by
        have : ∀ l : List UInt8, (hexL l).length = 2 * l.length := fun l => by induction l with
          | nil => rfl
          | cons x t ih => rw [hexL, List.flatMap_cons, List.length_append, ← hexL, ih]; simp [hexB]; omega
        rw [this, List.length_take]; omega)
      generalize s[k] = x at ck HT
      have hx256 := x.toNat_lt
      have HSL := Aside.mk hsl
      have HSS := Aside.mk hS
      clear e1 e2 hcell hx hsl hS
      have hand := and15 ⟨x.toNat, hx256⟩
      dsimp only at hand
      obtain ⟨lo, hlo⟩ : ∃ lo, x.toNat % 16 = lo := ⟨_, rfl⟩
      obtain ⟨hi, hhi⟩ : ∃ hi, x.toNat / 16 = hi := ⟨_, rfl⟩
      have hsh : (x.toNat : Int) / 16 = (hi : Int) := by omega
      have hlo16 : lo < 16 := by omega
      have hhi16 : hi < 16 := by omega
      have HX := Aside.mk (show hexB x = [hexD hi, hexD lo] by unfold hexB; rw [hlo, hhi])
      have hi1 := digit_at hi hhi16
      have hi2 := digit_at lo hlo16
      rw [hlo] at hand
      clear hlo hhi
      have HR := Aside.mk (And.intro hlo16 hhi16)
      have hbl2 : W1.heap.size ≤ wr.heap.size := I3.out.size
      clear hlo16 hhi16
      go_wp2_with fail
      go_region_held3 (fun w' => True) (exact trivial) (
        (refine step_append_view VByte.ok bytesTy (by rfl) _ _ (by rfl) (by rfl) (I2.out.below VByte.ok ?_) (by rfl) (xs := hexL (s.data.toList.take k)) (ys := [hexD hi, hexD lo]) (xv := .slice (some ⟨wr.heap.size, 0, none⟩) 2 2) (avs := fun b => b = wr.heap.size) ?_ ?_ ?_ ?_ ?_
         · exact below_new_drew _ _
         · exact (VSlice.ok VByte.ok).below (lit_bytes wr (fun b => b = wr.heap.size) [hexD hi, hexD lo] rfl 2 2 rfl (by simp)) (below_drew _)
         · exact fun b hb _ => ⟨by omega, fun e => by have := (I2.out.lt b e.symm).2; omega⟩
         · (simp only [List.length_cons, List.length_nil]; have := HL.out; omega)
         · exact Nat.le_trans hbl2 (below_new_drew _ _).size
         intro v' w6 hown' hgrow hat))
      all_goals
        rw [← HX.out, ← HT.out] at hown'
        have L1 := Aside.mk hown'
        have L2 := Aside.mk (show Below W1.heap.size W1 w6 from below_of_own I3.out (below_new_drew _ _) hgrow (fun b e => (I2.out.lt b e).1))
        clear hown' hgrow hat hand hi1 hi2
        go_wp2
        go_roundg m
        case measure => omega
        case rel => exact ⟨k + 1, by go_num, ⟨by omega, L1.out, L2.out⟩⟩
    · have hk2 : (s.size : Int) ≤ (k : Int) := by omega
      have HE := Aside.mk (show s.data.toList.take k = s.data.toList from List.take_of_length_le (by rw [hsl]; omega))
      have hconv := bytes_text (I2.out.view VByte.ok)
      rw [HE.out] at hconv
      have HW := Aside.mk (show Below w.heap.size w wr from below_then hB.out I3.out)
      clear hk hsl hS
      go_wp2
      go_ret
      exact ⟨rfl, HW.out⟩
end Go.Proofs.YtiafggoaedifdaaGreatDoor.Code
/- esc: isOne, isPlain; bytes goes through a text. Conditions: the slice reads as it lies. -/
namespace Go.Proofs.YtiafggoaedifdaaGreatDoor.Esc
open Go.RowKit
set_option linter.unusedVariables false
theorem one_calls (b : UInt8) (v : Value) (l : List UInt8) (w : World) (hv : VSlice 1 VByte w (fun _ => True) [v] l) (hl : l.length ≤ 100000000) : Calls Tryz.prog 51 #[.int .u8 b.toNat, v] w fun e w' => e = .returned (.bool (l.contains b)) ∧ w = w' := by
  obtain ⟨A, c, rfl, _, hx⟩ := hv.open
  have HX := Aside.mk hx
  clear hx hv
  go_enter Tryz.func51, Tryz.ntmps51
  go_wp2_with fail
  go_loopg [9] l.length (fun gk v9 wr => ∃ (k : Nat), v9 = .int .i64 k ∧ wr = w ∧ Aside (k + gk = l.length ∧ (l.take k).contains b = false))
  case atStart => exact ⟨0, rfl, rfl, ⟨by omega, by simp⟩⟩
  case round =>
    obtain ⟨k, rfl, rfl, HI⟩ := hrel
    obtain ⟨i1, i2⟩ := HI.out
    have I2 := Aside.mk i2
    clear HI i2
    by_cases hk : k < l.length
    · obtain ⟨m, rfl⟩ : ∃ m, gk = m + 1 := ⟨gk - 1, by omega⟩
      have hki : (k : Int) < (l.length : Int) := by omega
      obtain ⟨bb, o, rfl, _, hbl, hcell⟩ := HX.out (by rintro rfl; simp at hk)
      obtain ⟨ws, e1, e2⟩ := hcell k l[k] (List.getElem?_eq_getElem hk)
      have e1' : ws = [.int .u8 l[k].toNat] := e1
      subst e1'
      have ck : wr.cell? ⟨bb, o + k, none⟩ = some (.int .u8 l[k].toNat) := by
        have := e2 0 _ rfl
        simpa using this
      have HT := Aside.mk (show (l.take (k + 1)).contains b = (b == l[k]) by rw [List.take_succ_eq_append_getElem hk, List.contains_append, I2.out]; simp only [List.contains_cons, List.contains_nil, Bool.or_false, Bool.false_or])
      have HM := Aside.mk (List.getElem_mem hk)
      generalize l[k] = x at ck HT HM
      clear e1 e2 hcell
      by_cases hbx : b = x
      · have q : ((b.toNat : Int) == (x.toNat : Int)) = true := by rw [hbx]; simp
        have HQ := Aside.mk (show l.contains b = true by rw [List.contains_iff_mem, hbx]; exact HM.out)
        clear hbx
        go_wp2
        go_ret
        exact ⟨by rw [HQ.out]; rfl, rfl⟩
      · have q : ((b.toNat : Int) == (x.toNat : Int)) = false := by
          simp only [beq_eq_false_iff_ne]
          intro e
          exact hbx (UInt8.toNat_inj.1 (by omega))
        have HQ := Aside.mk (show (b == x) = false by simp [hbx])
        clear hbx
        go_wp2
        go_roundg m
        case measure => omega
        case rel => exact ⟨k + 1, by go_num, rfl, ⟨by omega, by rw [HT.out, HQ.out]⟩⟩
    · have hk2 : (l.length : Int) ≤ (k : Int) := by omega
      have HE := Aside.mk (show l.contains b = false by have := I2.out; rwa [List.take_of_length_le (by omega)] at this)
      clear hk
      go_wp2
      go_ret
      exact ⟨by rw [HE.out]; rfl, rfl⟩
def plainB (b : UInt8) : Bool := decide (32 ≤ b.toNat) && decide (b.toNat ≤ 126)
theorem plain_calls (b : UInt8) (w : World) : Calls Tryz.prog 50 #[.int .u8 b.toNat] w fun e w' => e = .returned (.bool (plainB b)) ∧ w = w' := by
  by_cases h1 : 32 ≤ b.toNat <;> by_cases h2 : b.toNat ≤ 126
  all_goals
    have z1 : (32 : Int) ≤ (b.toNat : Int) ↔ 32 ≤ b.toNat := by omega
    have z2 : (b.toNat : Int) ≤ 126 ↔ b.toNat ≤ 126 := by omega
    go_enter Tryz.func50, Tryz.ntmps50
    go_wp2
    all_goals first | (exfalso; omega) | (go_ret; exact ⟨by simp [plainB, h1, h2], rfl⟩)
theorem bytes_maker (s : ByteArray) (w : World) :
    Calls Tryz.prog 78 #[.string s] w fun e w' => e = .returned (.func (.func 105) #[] #[.pointer (some ⟨w.heap.size, 0, none⟩)]) ∧ w.alloc (.cells #[.string s] 9) = w' := by
  go_enter Tryz.func78, Tryz.ntmps78
  go_wp2
  go_ret
  exact ⟨rfl, rfl⟩
attribute [local go_sem] Oper.semAt_some
/-- the walk of what bytes gives: each byte, with its place; J: what holds between two rounds -/
theorem bytes_iter {l0 Bx : Nat} {s : ByteArray} (hs : s.size ≤ 1000000000) (J : List UInt8 → World → Prop) (hJx : ∀ pre W, J pre W → W.cell? ⟨Bx, 0, none⟩ = some (.string s))
    (hY : ∀ k (hk : k < s.size) W, J (s.data.toList.take k) W → ∃ fn tmps assign body, (Instr.yield l0 #[.int .i64 k, .int .u8 s[k].toNat]).run Tryz.prog W = .ok (.round l0 fn tmps assign body) W ∧ RoundIn Fence.wide 0 Tryz.prog l0 fn tmps assign body W (fun e W' => e = .returned (.bool true) ∧ J (s.data.toList.take (k + 1)) W'))
    (W : World) (h0 : J [] W) :
    Calls Tryz.prog 105 #[.func (.yield l0) #[] #[], .pointer (some ⟨Bx, 0, none⟩)] W fun e W' => (∃ v, e = .returned v) ∧ J s.data.toList W' := by
  have c0 := hJx [] W h0
  have HSL := Aside.mk (Txt.size_list s)
  go_enter Tryz.func105, Tryz.ntmps105
  go_wp2
  go_step3
  go_wp2
  go_step3
  go_wp2
  go_loopg [6] s.size (fun gk v6 wr => ∃ k : Nat, v6 = .int .i64 k ∧ Aside (k + gk = s.size ∧ J (s.data.toList.take k) wr))
  case atStart => exact ⟨0, rfl, ⟨by omega, h0⟩⟩
  case round =>
    obtain ⟨k, rfl, HI⟩ := hrel
    obtain ⟨i1, i2⟩ := HI.out
    have I2 := Aside.mk i2
    clear HI i2 c0
    have c0 := hJx _ _ I2.out
    by_cases hk : k < s.size
    · obtain ⟨m, rfl⟩ : ∃ m, gk = m + 1 := ⟨gk - 1, by omega⟩
      have hki : (k : Int) < (s.size : Int) := by omega
      obtain ⟨fn, tm, asg, bo, hy, hR⟩ := hY k hk wr I2.out
      have HRR := Aside.mk hR
      clear hR
      refine (wpIn_wide (n := 1)).1 ?_
      gi_wp2_with fail
      refine HRR.out.mono ?_
      rintro e w3 ⟨rfl, hJ3⟩
      have HJ3 := Aside.mk hJ3
      clear hJ3 hy
      gi_wp2
      go_roundg m
      case measure => omega
      case rel => exact ⟨k + 1, by go_num, ⟨by omega, HJ3.out⟩⟩
    · have hk2 : (s.size : Int) ≤ (k : Int) := by omega
      have HE := Aside.mk (show J s.data.toList wr by have := I2.out; rwa [List.take_of_length_le (by have := HSL.out; omega)] at this)
      clear hk
      go_wp2
      rw [Exit.noGoto_normal]
      go_end0
      exact ⟨⟨_, rfl⟩, HE.out⟩
end Go.Proofs.YtiafggoaedifdaaGreatDoor.Esc
/- Contracts of functions of Go's library, as the kit's shelf proves them of whatever program, at this program's numbers. Each states its own conditions. -/
namespace Go.Proofs.YtiafggoaedifdaaGreatDoor
open Go.Shelf
def Shelf.Laysn167_ren : Go.Shelf.Ren := ⟨fun | 167 => 79 | 240 => 93 | 276 => 121 | n => n, fun | 0 => 0 | 4 => 4 | 5 => 5 | 9 => 9 | 20 => 20 | 37 => 73 | 70 => 88 | 72 => 90 | 75 => 61 | 80 => 95 | 164 => 133 | n => n, fun  | n => n⟩
theorem Shelf.Laysn167 : Go.Proofs.Lays.n167 Tryz.prog Shelf.Laysn167_ren := {
  mixed := by kernel_rfl
  f167 := Tryz.func79.trans (congrArg some (by kernel_rfl))
  f240 := Tryz.func93.trans (congrArg some (by kernel_rfl))
  f276 := Tryz.func121.trans (congrArg some (by kernel_rfl))
  t0 := Tryz.underlying0
  a0 := Tryz.isAgg0
  z0 := Tryz.sizeOf0
  v0 := Tryz.zeroValue0
  t4 := Tryz.underlying4
  a4 := Tryz.isAgg4
  z4 := Tryz.sizeOf4
  v4 := Tryz.zeroValue4
  t5 := Tryz.underlying5
  a5 := Tryz.isAgg5
  z5 := Tryz.sizeOf5
  v5 := Tryz.zeroValue5
  t9 := Tryz.underlying9
  a9 := Tryz.isAgg9
  z9 := Tryz.sizeOf9
  v9 := Tryz.zeroValue9
  t20 := Tryz.underlying20
  a20 := Tryz.isAgg20
  z20 := Tryz.sizeOf20
  v20 := Tryz.zeroValue20
  t37 := Tryz.underlying73
  a37 := Tryz.isAgg73
  z37 := Tryz.sizeOf73
  v37 := Tryz.zeroValue73
  t70 := Tryz.underlying88
  a70 := Tryz.isAgg88
  z70 := Tryz.sizeOf88
  v70 := Tryz.zeroValue88
  t72 := Tryz.underlying90
  a72 := Tryz.isAgg90
  z72 := Tryz.sizeOf90
  v72 := Tryz.zeroValue90
  t75 := Tryz.underlying61
  a75 := Tryz.isAgg61
  z75 := Tryz.sizeOf61
  v75 := Tryz.zeroValue61
  t164 := Tryz.underlying133
  a164 := Tryz.isAgg133
  z164 := Tryz.sizeOf133
  v164 := Tryz.zeroValue133 }
theorem Shelf.Builder_Extra_Laysn167 : Builder.Extra Tryz.prog Shelf.Laysn167_ren := {
  sizeBuilder := by kernel_rfl
  liesBuilder := by kernel_rfl
  t5 := Tryz.underlying5
  a5 := Tryz.isAgg5
  z5 := Tryz.sizeOf5
  v5 := Tryz.zeroValue5
  infoByte := by kernel_rfl
  cellsByte := by kernel_rfl
  sizeByte := by kernel_rfl
  neB5 := by decide }
open Go.RowKit in
theorem Shelf.Builder_WriteByte_k  (B b : Nat) (bs : List Value) (c : Int) (w : World) (h : Lib.IsBuilderF 90 5 B b bs w) (hlen : bs.length + 1 ≤ 140737488355328) (hBw : B ≤ w.heap.size) :
    Calls Tryz.prog 79 #[.pointer (some ⟨b, 0, none⟩), .int .u8 c] w fun e w' => e = .returned .nilIface ∧ (Lib.BuilderAtF 90 5 B b (.pointer (some ⟨b, 0, none⟩)) (bs ++ [.int .u8 c]) w' ∧ Below B w w' ∧ Lib.OthersKept 5 (some b) w w') := Any.Builder_WriteByte_k Shelf.Laysn167 Shelf.Builder_Extra_Laysn167 B b bs c w h hlen hBw
def Shelf.Laysn166_ren : Go.Shelf.Ren := ⟨fun | 166 => 63 | 240 => 93 | 276 => 121 | n => n, fun | 0 => 0 | 3 => 3 | 4 => 4 | 5 => 5 | 9 => 9 | 20 => 20 | 37 => 73 | 70 => 88 | 72 => 90 | 75 => 61 | 80 => 95 | 164 => 133 | n => n, fun  | n => n⟩
theorem Shelf.Laysn166 : Go.Proofs.Lays.n166 Tryz.prog Shelf.Laysn166_ren := {
  mixed := by kernel_rfl
  f166 := Tryz.func63.trans (congrArg some (by kernel_rfl))
  f240 := Tryz.func93.trans (congrArg some (by kernel_rfl))
  f276 := Tryz.func121.trans (congrArg some (by kernel_rfl))
  t0 := Tryz.underlying0
  a0 := Tryz.isAgg0
  z0 := Tryz.sizeOf0
  v0 := Tryz.zeroValue0
  t3 := Tryz.underlying3
  a3 := Tryz.isAgg3
  z3 := Tryz.sizeOf3
  v3 := Tryz.zeroValue3
  t4 := Tryz.underlying4
  a4 := Tryz.isAgg4
  z4 := Tryz.sizeOf4
  v4 := Tryz.zeroValue4
  t9 := Tryz.underlying9
  a9 := Tryz.isAgg9
  z9 := Tryz.sizeOf9
  v9 := Tryz.zeroValue9
  t20 := Tryz.underlying20
  a20 := Tryz.isAgg20
  z20 := Tryz.sizeOf20
  v20 := Tryz.zeroValue20
  t37 := Tryz.underlying73
  a37 := Tryz.isAgg73
  z37 := Tryz.sizeOf73
  v37 := Tryz.zeroValue73
  t70 := Tryz.underlying88
  a70 := Tryz.isAgg88
  z70 := Tryz.sizeOf88
  v70 := Tryz.zeroValue88
  t72 := Tryz.underlying90
  a72 := Tryz.isAgg90
  z72 := Tryz.sizeOf90
  v72 := Tryz.zeroValue90
  t75 := Tryz.underlying61
  a75 := Tryz.isAgg61
  z75 := Tryz.sizeOf61
  v75 := Tryz.zeroValue61
  t164 := Tryz.underlying133
  a164 := Tryz.isAgg133
  z164 := Tryz.sizeOf133
  v164 := Tryz.zeroValue133 }
theorem Shelf.Builder_Extra_Laysn166 : Builder.Extra Tryz.prog Shelf.Laysn166_ren := {
  sizeBuilder := by kernel_rfl
  liesBuilder := by kernel_rfl
  t5 := Tryz.underlying5
  a5 := Tryz.isAgg5
  z5 := Tryz.sizeOf5
  v5 := Tryz.zeroValue5
  infoByte := by kernel_rfl
  cellsByte := by kernel_rfl
  sizeByte := by kernel_rfl
  neB5 := by decide }
open Go.RowKit in
theorem Shelf.Builder_WriteString_k  (B b : Nat) (bs : List Value) (s : ByteArray) (w : World) (h : Lib.IsBuilderF 90 5 B b bs w) (hlen : bs.length + s.size ≤ 140737488355328) (hBw : B ≤ w.heap.size) :
    Calls Tryz.prog 63 #[.pointer (some ⟨b, 0, none⟩), .string s] w fun e w' => e = .returned (.tuple #[.int .i64 s.size, .nilIface]) ∧ (Lib.BuilderAtF 90 5 B b (.pointer (some ⟨b, 0, none⟩)) (bs ++ Lib.strCells s) w' ∧ Below B w w' ∧ Lib.OthersKept 5 (some b) w w') := Any.Builder_WriteString_k Shelf.Laysn166 Shelf.Builder_Extra_Laysn166 B b bs s w h hlen hBw
def Shelf.Laysn169_ren : Go.Shelf.Ren := ⟨fun | 169 => 65 | n => n, fun | 0 => 0 | 3 => 3 | 5 => 5 | 9 => 9 | 37 => 73 | 70 => 88 | 72 => 90 | 127 => 143 | n => n, fun  | n => n⟩
theorem Shelf.Laysn169 : Go.Proofs.Lays.n169 Tryz.prog Shelf.Laysn169_ren := {
  mixed := by kernel_rfl
  f169 := Tryz.func65.trans (congrArg some (by kernel_rfl))
  t0 := Tryz.underlying0
  a0 := Tryz.isAgg0
  z0 := Tryz.sizeOf0
  v0 := Tryz.zeroValue0
  t3 := Tryz.underlying3
  a3 := Tryz.isAgg3
  z3 := Tryz.sizeOf3
  v3 := Tryz.zeroValue3
  t9 := Tryz.underlying9
  a9 := Tryz.isAgg9
  z9 := Tryz.sizeOf9
  v9 := Tryz.zeroValue9
  t37 := Tryz.underlying73
  a37 := Tryz.isAgg73
  z37 := Tryz.sizeOf73
  v37 := Tryz.zeroValue73
  t70 := Tryz.underlying88
  a70 := Tryz.isAgg88
  z70 := Tryz.sizeOf88
  v70 := Tryz.zeroValue88
  t72 := Tryz.underlying90
  a72 := Tryz.isAgg90
  z72 := Tryz.sizeOf90
  v72 := Tryz.zeroValue90
  t127 := Tryz.underlying143
  a127 := Tryz.isAgg143
  z127 := Tryz.sizeOf143
  v127 := Tryz.zeroValue143 }
theorem Shelf.Builder_Extra_Laysn169 : Builder.Extra Tryz.prog Shelf.Laysn169_ren := {
  sizeBuilder := by kernel_rfl
  liesBuilder := by kernel_rfl
  t5 := Tryz.underlying5
  a5 := Tryz.isAgg5
  z5 := Tryz.sizeOf5
  v5 := Tryz.zeroValue5
  infoByte := by kernel_rfl
  cellsByte := by kernel_rfl
  sizeByte := by kernel_rfl
  neB5 := by decide }
open Go.RowKit in
theorem Shelf.Builder_String_any_k  (B b : Nat) (l : List UInt8) (w : World) (h : Lib.IsBuilderF 90 5 B b (Lib.byteCells l) w) (hBw : B ≤ w.heap.size) :
    Calls Tryz.prog 65 #[.pointer (some ⟨b, 0, none⟩)] w fun e w' => e = .returned (.string ⟨l.toArray⟩) ∧ (Lib.IsBuilderF 90 5 B b (Lib.byteCells l) w' ∧ Below B w w' ∧ Lib.OthersKept 5 (some b) w w') := Any.Builder_String_any_k Shelf.Laysn169 Shelf.Builder_Extra_Laysn169 B b l w h hBw
end Go.Proofs.YtiafggoaedifdaaGreatDoor
