/- Several texts, one behind the other. A reader of the package esc: a struct whose last field is a strings.Builder: its methods there. Conditions: the shape of memory that each theorem names. Contracts of functions of Go's library, as the kit's shelf proves them of whatever program, at this program's numbers. Each states its own conditions. Contracts of functions of Go's library, as the kit's shelf proves them of whatever program, at this program's numbers. Each states its own conditions. Which texts are types of names: plain functions. No program. strings.IndexRune at the digits and a rune that is none of ASCII's, and has two bytes, or is none. Conditions: those. errors.As and errors.Is at an error type of the package Code: a struct of one cell (Go's text of both is walked). No conditions beyond the shape of memory that each theorem names. errors.Is at an error of the package Code that wraps the package's sentinel, against a sentinel: true just if it is that one (Go's text is walked). No conditions beyond the shape of memory that each theorem names. code.told: the number of an error of the package code. Conditions: the package's variable holds its sentinel. What the walks ask of the package-level variables: the sentinel errors, MaxLen's number, the decoder's two tables. It lives on in later worlds. -/
import Derived.Test.YtajpgigeploodaaGreatDoorM13
import Derived.Shelf.Strings.Builder1
import Derived.Deep.QuietTactic
import Derived.BigQuiet
import Derived.RegionTactic
import Derived.ChangeAlike
import Derived.Shelf.Strings.Runes
import Derived.Shelf.Small.Strs
import Derived.Test.YtajpgigeploodaaGreatDoorProg
import Derived.Shelf.Unicode.DecodeAny
import Derived.Shelf.Small.Utf8
import Derived.Lib.Split
import Derived.Lib.SplitLaws
import Derived.Lib.IndexBytes
import Derived.WalkKit
import Derived.Below
import Derived.KernelRfl
import Derived.LaidEql
import Derived.Stop.Asserts
import Derived.RowKitTokens
import Derived.Outline
import Derived.Laws.Rows
import Derived.RangeFuncRecord
import Derived.Laws.Tables
import Derived.Test.YtajpgigeploodaaGreatDoorM01
import Derived.Shelf.Unicode.DecodeSlow
/- A reader of the package esc: a struct whose last field is a strings.Builder: its methods there. Conditions: the shape of memory that each theorem names. -/
namespace Go.Proofs.YtajpgigeploodaaGreatDoor.Esc
open Go.RowKit
set_option linter.unusedVariables false
/-- a reader in block B: its text, its place, of a name?, what it has read -/
def RD (w : World) (B : Nat) (s : ByteArray) (at_ : Nat) (nm : Bool) (l : List UInt8) : Prop :=
  ∃ p v, w.heap[B]? = some (.cells #[.string s, .int .i64 at_, .bool nm, p, v] 171 (0, 0)) ∧ (p = .pointer none ∨ p = .pointer (some ⟨B, 3, none⟩)) ∧ w.ownsRow (B + 1) 5 1 v l.length (Lib.byteCells l) ∧ (l = [] → v = .slice none 0 0)
theorem RD.below {w w' : World} {B : Nat} {s : ByteArray} {at_ : Nat} {nm : Bool} {l : List UInt8} (h : RD w B s at_ nm l) (hb : Below w.heap.size w w') : RD w' B s at_ nm l := by
  obtain ⟨p, v, h1, h2, h3, h4⟩ := h
  exact ⟨p, v, blk_below h1 hb, h2, ownsRow_upd h3 (Upd.of_below (S := fun _ => False) hb) (fun _ _ h => h), h4⟩
theorem bldInfo : (Tryz.prog.info? 73).map (·.size) = some 2 := by kernel_rfl
theorem bldLies : liesAt Tryz.prog Tryz.prog.depth 171 (5 / Tryz.prog.cellsOf 171) 3 73 1 = true := by kernel_rfl
set_option maxHeartbeats 100000000 in
set_option maxRecDepth 100000 in
theorem check_used (B : Nat) (w : World) (h0 : w.cell? ⟨B, 3, none⟩ = some (.pointer (some ⟨B, 3, none⟩))) :
    Calls Tryz.prog 83 #[.pointer (some ⟨B, 3, none⟩)] w fun e w' => e = .returned (.tuple #[]) ∧ w = w' := by
  obtain ⟨j, hj, _⟩ := Option.map_eq_some_iff.1 bldInfo
  have hne := Lib.run_neq_ptr_same (P := Tryz.prog) w ⟨B, 3, none⟩ Tryz.underlying71 hj
  go_enter Tryz.func83, Tryz.ntmps83
  go_wp2
  go_end0
  exact ⟨rfl, rfl⟩
set_option maxHeartbeats 100000000 in
set_option maxRecDepth 100000 in
theorem check_fresh (B : Nat) (w : World) (h0 : w.cell? ⟨B, 3, none⟩ = some (.pointer none)) (hsh : w.shape? B = some (171, 5)) (hfz : w.frozen? ⟨B, 3, none⟩ = false) :
    Calls Tryz.prog 83 #[.pointer (some ⟨B, 3, none⟩)] w fun e w' => e = .returned (.tuple #[]) ∧ w.setCell ⟨B, 3, none⟩ (.pointer (some ⟨B, 3, none⟩)) = w' := by
  obtain ⟨j, hj, hjs⟩ := Option.map_eq_some_iff.1 bldInfo
  have h1 := Lib.run_to_unsafe (P := Tryz.prog) w ⟨B, 3, none⟩ Tryz.underlying71 Tryz.underlying107 hj (by rw [hjs]; decide) hsh (show 3 < 5 by decide)
  have h2 := Lib.run_from_unsafe (P := Tryz.prog) w ⟨B, 3, none⟩ Tryz.underlying107 Tryz.underlying71 hj hsh bldLies
  have h3 := @run_callFunc_extern Tryz.prog 101 _ Extern.AbiNoEscape.same Tryz.func101 (by kernel_rfl) (by kernel_rfl) (by kernel_rfl) (by kernel_rfl)
  have h4 := fun x => Lib.run_noEscape (P := Tryz.prog) w x
  go_enter Tryz.func83, Tryz.ntmps83
  go_wp2
  go_end0
  exact ⟨rfl, rfl⟩
/-- a reader whose builder has been written -/
def RU (w : World) (B : Nat) (s : ByteArray) (at_ : Nat) (nm : Bool) (v : Value) (l : List UInt8) : Prop :=
  w.heap[B]? = some (.cells #[.string s, .int .i64 at_, .bool nm, .pointer (some ⟨B, 3, none⟩), v] 171 (0, 0)) ∧ w.ownsRow (B + 1) 5 1 v l.length (Lib.byteCells l)
theorem check_calls {w : World} {B : Nat} {s : ByteArray} {at_ : Nat} {nm : Bool} {l : List UInt8} (h : RD w B s at_ nm l) :
    Calls Tryz.prog 83 #[.pointer (some ⟨B, 3, none⟩)] w fun e w' => e = .returned (.tuple #[]) ∧ (∃ v, RU w' B s at_ nm v l) ∧ Below B w w' ∧ w.heap.size ≤ w'.heap.size := by
  obtain ⟨p, v, h1, h2, h3, _⟩ := h
  rcases h2 with rfl | rfl
  · refine (check_fresh B w (cel h1 3 rfl) (by simp [World.shape?, h1]) (frz h1 3)).mono ?_
    rintro e w' ⟨rfl, rfl⟩
    exact ⟨rfl, ⟨v, set_blk h1 3 _, ownsRow_upd h3 (Upd.of_grown (S := fun k => k = B) (set_grown w B 3 _) rfl) (fun k hk => by have := (h3.lt k hk).1; omega)⟩, (Below.refl B w).setCell (p := ⟨B, 3, none⟩) (Nat.le_refl _) _, by simp [World.setCell]⟩
  · refine (check_used B w (cel h1 3 rfl)).mono ?_
    rintro e w' ⟨rfl, rfl⟩
    exact ⟨rfl, ⟨v, h1, h3⟩, Below.refl _ _, Nat.le_refl _⟩
theorem ownsRow_slice {W : World} {base : Nat} {e : TypeId} {size : Nat} {v : Value} {k : Nat} {xs : List Value} (h : W.ownsRow base e size v k xs) : ∃ A c, v = .slice A k c := by
  rcases h.2 with ⟨rfl, rfl⟩ | ⟨g, cap, _, rfl, _⟩
  · exact ⟨none, 0, rfl⟩
  · exact ⟨_, cap, rfl⟩
theorem bytesInfo : (Tryz.prog.info? 5).map (fun i => (i.zero, i.size, i.bytes)) = some (some (.int .u8 0), 1, 1) := by kernel_rfl
theorem put_row {w6 : World} {B : Nat} {s : ByteArray} {at_ : Nat} {nm : Bool} {v v' : Value} {l : List UInt8} (hb : w6.heap[B]? = some (.cells #[.string s, .int .i64 at_, .bool nm, .pointer (some ⟨B, 3, none⟩), v] 171 (0, 0))) (h : w6.ownsRow (B + 1) 5 1 v' l.length (Lib.byteCells l)) (hne : l ≠ []) : RD (w6.setCell ⟨B, 4, none⟩ v') B s at_ nm l :=
  ⟨_, _, set_blk hb 4 v', .inr rfl, ownsRow_upd h (Upd.of_grown (S := fun k => k = B) (set_grown w6 B 4 v') rfl) (fun k hk => by have := (h.lt k hk).1; omega), fun h => absurd h hne⟩
set_option maxHeartbeats 2000000 in
set_option maxRecDepth 100000 in
theorem wbyte {w : World} {B : Nat} {s : ByteArray} {at_ : Nat} {nm : Bool} {l : List UInt8} (h : RD w B s at_ nm l) (hB : B < w.heap.size) (hl : l.length ≤ 1000000000) (b : UInt8) :
    Calls Tryz.prog 76 #[.pointer (some ⟨B, 3, none⟩), .int .u8 b.toNat] w fun e w' => e = .returned .nilIface ∧ RD w' B s at_ nm (l ++ [b]) ∧ Below B w w' := by
  obtain ⟨i0, hi, hz0, hz1, hz2⟩ := info_parts bytesInfo
  go_enter Tryz.func76, Tryz.ntmps76
  go_wp2_with fail
  refine (check_calls h).mono ?_
  rintro e w1 ⟨rfl, ⟨v, h1, h2⟩, hb, hsz⟩
  have c3 : w1.cell? ⟨B, 3, none⟩ = some (.pointer (some ⟨B, 3, none⟩)) := cel h1 3 rfl
  have c4 : w1.cell? ⟨B, 4, none⟩ = some v := cel h1 4 rfl
  have hB1 : B < w1.heap.size := Nat.lt_of_lt_of_le hB hsz
  have H1 := Aside.mk h1
  have H2 := Aside.mk h2
  have HB := Aside.mk hb
  clear h1 h2 hb h
  go_wp2_with (at_builtin; refine wpList_append_own _ rfl _ _ 66 rfl (B + 1) 5 i0 (.int .u8 0) 1 1 Tryz.underlying66 hi hz0 hz1 hz2 rfl (by decide) _ _ _ rfl (H2.out.alloc _) ⟨w1.heap.size, 0, none⟩ 1 1 [.int .u8 b.toNat] rfl rfl (cell_one_new _ _ _) (by simp [Value.oneCell']) (by unfold maxLen; omega) (by omega) (by simp; omega) ?_)
  intro v' w6 hown hgrow _
  obtain ⟨g', cap', rfl⟩ := ownsRow_succ hown
  have hne : v.ownBlock ≠ some B := fun e => by have := (H2.out.lt B e).1; omega
  have hb6 := blk_grown (blk_below H1.out (below_new w1 (.cells #[.int .u8 b.toNat] 5))) hgrow (fun e => hne e.symm)
  have d4 : w6.cell? ⟨B, 4, none⟩ = some v := cel hb6 4 rfl
  have f4 := frz hb6 4
  have HO := Aside.mk hown
  have HG := Aside.mk hgrow
  have HB6 := Aside.mk hb6
  clear hown hgrow hb6 c3 c4 hi
  go_wp2
  go_ret
  refine ⟨rfl, put_row (l := l ++ [b]) HB6.out (by have := HO.out; simpa [Lib.byteCells] using this) (by simp), ?_⟩
  exact ((HB.out.trans ((below_new w1 _).mono (by omega))).grown HG.out (by simp; omega) (fun k hk => by have := (H2.out.lt k hk).1; omega)).setCell (p := ⟨B, 4, none⟩) (Nat.le_refl _) _
set_option maxHeartbeats 2000000 in
set_option maxRecDepth 100000 in
theorem wstring {w : World} {B : Nat} {s : ByteArray} {at_ : Nat} {nm : Bool} {l : List UInt8} (h : RD w B s at_ nm l) (hB : B < w.heap.size) (t : List UInt8) (ht : t ≠ []) (hl : l.length + t.length ≤ 1000000000) :
    Calls Tryz.prog 51 #[.pointer (some ⟨B, 3, none⟩), .string ⟨t.toArray⟩] w fun e w' => (∃ v, e = .returned v) ∧ RD w' B s at_ nm (l ++ t) ∧ Below B w w' := by
  obtain ⟨i0, hi, hz0, hz1, hz2⟩ := info_parts bytesInfo
  go_enter Tryz.func51, Tryz.ntmps51
  go_wp2_with fail
  refine (check_calls h).mono ?_
  rintro e w1 ⟨rfl, ⟨v, h1, h2⟩, hb, hsz⟩
  have c3 : w1.cell? ⟨B, 3, none⟩ = some (.pointer (some ⟨B, 3, none⟩)) := cel h1 3 rfl
  have c4 : w1.cell? ⟨B, 4, none⟩ = some v := cel h1 4 rfl
  have hB1 : B < w1.heap.size := Nat.lt_of_lt_of_le hB hsz
  have HSZ := Aside.mk (Txt.size_mk t)
  have HTN := Aside.mk ht
  clear ht
  have H1 := Aside.mk h1
  have H2 := Aside.mk h2
  have HB := Aside.mk hb
  clear h1 h2 hb h
  go_wp2_with (at_builtin; refine Lib.wpList_append_own_string _ rfl _ _ 66 9 rfl (B + 1) 5 i0 Tryz.underlying66 Tryz.underlying9 hi hz0 hz1 hz2 _ _ _ rfl H2.out ⟨t.toArray⟩ rfl (by rw [HSZ.out]; unfold maxLen; omega) (by rw [HSZ.out]; omega) (by omega) ?_)
  intro v' w6 hown hgrow _
  obtain ⟨A', cap', rfl⟩ := ownsRow_slice hown
  have hne : v.ownBlock ≠ some B := fun e => by have := (H2.out.lt B e).1; omega
  have hb6 := blk_grown H1.out hgrow (fun e => hne e.symm)
  have d4 : w6.cell? ⟨B, 4, none⟩ = some v := cel hb6 4 rfl
  have f4 := frz hb6 4
  have HO := Aside.mk hown
  have HG := Aside.mk hgrow
  have HB6 := Aside.mk hb6
  clear hown hgrow hb6 c3 c4 hi
  go_wp2
  go_ret2
  refine ⟨⟨_, rfl⟩, put_row (l := l ++ t) HB6.out (by have := HO.out; rw [show Lib.strCells ⟨t.toArray⟩ = Lib.byteCells t from rfl, ← Lib.byteCells_append] at this; rwa [List.length_append]) (by simp [HTN.out]), ?_⟩
  exact (HB.out.grown HG.out (by omega) (fun k hk => by have := (H2.out.lt k hk).1; omega)).setCell (p := ⟨B, 4, none⟩) (Nat.le_refl _) _
set_option maxHeartbeats 2000000 in
set_option maxRecDepth 100000 in
theorem text_of {w : World} {B : Nat} {s : ByteArray} {at_ : Nat} {nm : Bool} {l : List UInt8} (h : RD w B s at_ nm l) :
    Calls Tryz.prog 53 #[.pointer (some ⟨B, 3, none⟩)] w fun e w' => e = .returned (.string ⟨l.toArray⟩) ∧ Below B w w' := by
  obtain ⟨p, v, h1, _, h3, h4⟩ := h
  have hcell : ∀ W : World, W.heap = w.heap → W.cell? ⟨B, 4, none⟩ = some v := fun W e => by
    have := cel h1 4 (v := v) rfl
    simpa [World.cell?, e] using this
  by_cases h0 : l = []
  · obtain rfl := h4 h0
    subst h0
    have hUN := fun W q => Lib.run_unsafeString_none (P := Tryz.prog) W 117 3 9 q
    have c1 : w.drew.cell? ⟨B, 4, none⟩ = some (.slice none 0 0) := hcell _ rfl
    have hSD : ∀ W : World, (Builtin.unsafeSliceData_ #[66] 117 #[.slice none 0 0]).run Tryz.prog W = .ok (.pointer none) W := fun W => rfl
    clear hcell h1 h3 h4
    go_enter Tryz.func53, Tryz.ntmps53
    go_wp2
    go_region
    all_goals (go_wp2; go_ret; exact ⟨rfl, Below.drew (Below.refl B w)⟩)
  · have hl0 : l.length ≠ 0 := by simpa using h0
    obtain ⟨g, cap, cur, rfl, hbg, hg, hnc, hcm, hcs, htake⟩ : ∃ g cap cur, v = .slice (some ⟨g, 0, none⟩) l.length cap ∧ B + 1 ≤ g ∧ w.heap[g]? = some (.cells cur 5 (0, 0)) ∧ l.length ≤ cap ∧ cap ≤ maxLen ∧ cur.size = cap * 1 ∧ cur.toList.take (l.length * 1) = Lib.byteCells l := by
      rcases h3.2 with ⟨_, hz⟩ | ⟨g, cap, cur, hv, r⟩
      · exact absurd hz hl0
      · exact ⟨g, cap, cur, hv, r⟩
    have c1 : w.drew.cell? ⟨B, 4, none⟩ = some (.slice (some ⟨g, 0, none⟩) l.length cap) := hcell _ rfl
    have hSD : (Builtin.unsafeSliceData_ #[66] 117 #[.slice (some ⟨g, 0, none⟩) l.length cap]).run Tryz.prog w.drew = .ok (.pointer (some ⟨g, 0, none⟩)) w.drew :=
      Lib.run_unsafeSliceData_row _ _ _ _ _ _ (by omega)
    have hUS : (Builtin.unsafeString_ #[117, 3] 9 #[.pointer (some ⟨g, 0, none⟩), .int .i64 l.length]).run Tryz.prog w.drew = .ok (.string ⟨l.toArray⟩) (w.drew.freeze ⟨g, 0, none⟩ l.length) := by
      refine Lib.run_unsafeString_row w.drew 117 3 9 5 Tryz.underlying117 (by kernel_rfl) g cur.size (by have hg' : w.drew.heap[g]? = some (.cells cur 5 (0, 0)) := hg; simp [World.shape?, hg']) l h0 (by omega) (by unfold maxLen at hcm; omega) ?_
      intro j x hx
      have := h3.cells (g := g) rfl j (.int .u8 x.toNat) (by simp [Lib.byteCells, hx])
      exact this
    clear hcell h1 h3 h4 hg htake hcs hnc hcm
    go_enter Tryz.func53, Tryz.ntmps53
    go_wp2
    go_region
    all_goals (go_wp2; go_ret; exact ⟨rfl, Lib.below_freeze (Below.drew (Below.refl B w)) (p := ⟨g, 0, none⟩) (show B ≤ g by omega) _⟩)
end Go.Proofs.YtajpgigeploodaaGreatDoor.Esc
/- Contracts of functions of Go's library, as the kit's shelf proves them of whatever program, at this program's numbers. Each states its own conditions. -/
namespace Go.Proofs.YtajpgigeploodaaGreatDoor
open Go.Shelf
def Shelf.Laysn152_ren : Go.Shelf.Ren := ⟨fun | 119 => 146 | 137 => 145 | 152 => 141 | 217 => 120 | 224 => 122 | 225 => 121 | 266 => 129 | n => n, fun | 0 => 0 | 3 => 3 | 4 => 4 | 5 => 5 | 9 => 9 | 21 => 21 | 46 => 67 | n => n, fun  | n => n⟩
theorem Shelf.Laysn152 : Go.Proofs.Lays.n152 Tryz.prog Shelf.Laysn152_ren := {
  mixed := by kernel_rfl
  f119 := Tryz.func146.trans (congrArg some (by kernel_rfl))
  f137 := Tryz.func145.trans (congrArg some (by kernel_rfl))
  f152 := Tryz.func141.trans (congrArg some (by kernel_rfl))
  f217 := Tryz.func120.trans (congrArg some (by kernel_rfl))
  f224 := Tryz.func122.trans (congrArg some (by kernel_rfl))
  f225 := Tryz.func121.trans (congrArg some (by kernel_rfl))
  f266 := Tryz.func129.trans (congrArg some (by kernel_rfl))
  t0 := Tryz.underlying0
  a0 := Tryz.isAgg0
  z0 := Tryz.sizeOf0
  v0 := Tryz.zeroValue0
  t3 := Tryz.underlying3
  a3 := Tryz.isAgg3
  z3 := Tryz.sizeOf3
  v3 := Tryz.zeroValue3
  t4 := Tryz.underlying4
  a4 := Tryz.isAgg4
  z4 := Tryz.sizeOf4
  v4 := Tryz.zeroValue4
  t5 := Tryz.underlying5
  a5 := Tryz.isAgg5
  z5 := Tryz.sizeOf5
  v5 := Tryz.zeroValue5
  t9 := Tryz.underlying9
  a9 := Tryz.isAgg9
  z9 := Tryz.sizeOf9
  v9 := Tryz.zeroValue9
  t21 := Tryz.underlying21
  a21 := Tryz.isAgg21
  z21 := Tryz.sizeOf21
  v21 := Tryz.zeroValue21
  t46 := Tryz.underlying67
  a46 := Tryz.isAgg67
  z46 := Tryz.sizeOf67
  v46 := Tryz.zeroValue67 }
open Go.RowKit Go.Lib in
theorem Shelf.strings_IndexRune_ascii  (s : ByteArray) (r : Int) (w : World) (h0 : 0 ≤ r) (h1 : r < 128) :
    Calls Tryz.prog 141 #[.string s, .int .i32 r] w fun e w' => e = .returned (.int .i64 (Lib.indexByte s.data.toList r.toNat.toUInt8)) ∧ w' = w := Any.strings_IndexRune_ascii Shelf.Laysn152  s r w h0 h1
def Shelf.Laysn151_ren : Go.Shelf.Ren := ⟨fun | 119 => 146 | 137 => 145 | 151 => 135 | 152 => 141 | 217 => 120 | 224 => 122 | 225 => 121 | 266 => 129 | n => n, fun | 0 => 0 | 3 => 3 | 4 => 4 | 5 => 5 | 9 => 9 | 21 => 21 | 46 => 67 | n => n, fun  | n => n⟩
theorem Shelf.Laysn151 : Go.Proofs.Lays.n151 Tryz.prog Shelf.Laysn151_ren := {
  mixed := by kernel_rfl
  f119 := Tryz.func146.trans (congrArg some (by kernel_rfl))
  f137 := Tryz.func145.trans (congrArg some (by kernel_rfl))
  f151 := Tryz.func135.trans (congrArg some (by kernel_rfl))
  f152 := Tryz.func141.trans (congrArg some (by kernel_rfl))
  f217 := Tryz.func120.trans (congrArg some (by kernel_rfl))
  f224 := Tryz.func122.trans (congrArg some (by kernel_rfl))
  f225 := Tryz.func121.trans (congrArg some (by kernel_rfl))
  f266 := Tryz.func129.trans (congrArg some (by kernel_rfl))
  t0 := Tryz.underlying0
  a0 := Tryz.isAgg0
  z0 := Tryz.sizeOf0
  v0 := Tryz.zeroValue0
  t3 := Tryz.underlying3
  a3 := Tryz.isAgg3
  z3 := Tryz.sizeOf3
  v3 := Tryz.zeroValue3
  t4 := Tryz.underlying4
  a4 := Tryz.isAgg4
  z4 := Tryz.sizeOf4
  v4 := Tryz.zeroValue4
  t5 := Tryz.underlying5
  a5 := Tryz.isAgg5
  z5 := Tryz.sizeOf5
  v5 := Tryz.zeroValue5
  t9 := Tryz.underlying9
  a9 := Tryz.isAgg9
  z9 := Tryz.sizeOf9
  v9 := Tryz.zeroValue9
  t21 := Tryz.underlying21
  a21 := Tryz.isAgg21
  z21 := Tryz.sizeOf21
  v21 := Tryz.zeroValue21
  t46 := Tryz.underlying67
  a46 := Tryz.isAgg67
  z46 := Tryz.sizeOf67
  v46 := Tryz.zeroValue67 }
open Go.RowKit Go.Lib in
theorem Shelf.strings_ContainsRune_ascii  (s : ByteArray) (r : Int) (w : World) (h0 : 0 ≤ r) (h1 : r < 128) :
    Calls Tryz.prog 135 #[.string s, .int .i32 r] w fun e w' => e = .returned (.bool (decide (0 ≤ Lib.indexByte s.data.toList r.toNat.toUInt8))) ∧ w' = w := Any.strings_ContainsRune_ascii Shelf.Laysn151  s r w h0 h1
def Shelf.Laysn137_ren : Go.Shelf.Ren := ⟨fun | 137 => 145 | 217 => 120 | 266 => 129 | n => n, fun | 3 => 3 | 5 => 5 | 9 => 9 | n => n, fun  | n => n⟩
theorem Shelf.Laysn137 : Go.Proofs.Lays.n137 Tryz.prog Shelf.Laysn137_ren := {
  mixed := by kernel_rfl
  f137 := Tryz.func145.trans (congrArg some (by kernel_rfl))
  f217 := Tryz.func120.trans (congrArg some (by kernel_rfl))
  f266 := Tryz.func129.trans (congrArg some (by kernel_rfl))
  t3 := Tryz.underlying3
  a3 := Tryz.isAgg3
  z3 := Tryz.sizeOf3
  v3 := Tryz.zeroValue3
  t5 := Tryz.underlying5
  a5 := Tryz.isAgg5
  z5 := Tryz.sizeOf5
  v5 := Tryz.zeroValue5
  t9 := Tryz.underlying9
  a9 := Tryz.isAgg9
  z9 := Tryz.sizeOf9
  v9 := Tryz.zeroValue9 }
open Go.RowKit in
theorem Shelf.strings_IndexByte  (s : ByteArray) (c : Int) (w : World) :
    Calls Tryz.prog 145 #[.string s, .int .u8 c] w fun e w' => e = .returned (.int .i64 (Lib.indexByte s.data.toList c.toNat.toUInt8)) ∧ w' = w := Any.strings_IndexByte Shelf.Laysn137  s c w
end Go.Proofs.YtajpgigeploodaaGreatDoor
/- Contracts of functions of Go's library, as the kit's shelf proves them of whatever program, at this program's numbers. Each states its own conditions. -/
namespace Go.Proofs.YtajpgigeploodaaGreatDoor
open Go.Shelf
def Shelf.Laysn197_ren : Go.Shelf.Ren := ⟨fun | 197 => 110 | 260 => 119 | n => n, fun | 0 => 0 | 3 => 3 | 4 => 4 | 5 => 5 | 9 => 9 | 21 => 21 | 46 => 67 | 105 => 153 | 119 => 160 | 138 => 162 | 139 => 163 | n => n, fun | 3 => 3 | 4 => 4 | n => n⟩
theorem Shelf.Laysn197 : Go.Proofs.Lays.n197 Tryz.prog Shelf.Laysn197_ren := {
  mixed := by kernel_rfl
  f197 := Tryz.func110.trans (congrArg some (by kernel_rfl))
  f260 := Tryz.func119.trans (congrArg some (by kernel_rfl))
  t0 := Tryz.underlying0
  a0 := Tryz.isAgg0
  z0 := Tryz.sizeOf0
  v0 := Tryz.zeroValue0
  t3 := Tryz.underlying3
  a3 := Tryz.isAgg3
  z3 := Tryz.sizeOf3
  v3 := Tryz.zeroValue3
  t4 := Tryz.underlying4
  a4 := Tryz.isAgg4
  z4 := Tryz.sizeOf4
  v4 := Tryz.zeroValue4
  t5 := Tryz.underlying5
  a5 := Tryz.isAgg5
  z5 := Tryz.sizeOf5
  v5 := Tryz.zeroValue5
  t9 := Tryz.underlying9
  a9 := Tryz.isAgg9
  z9 := Tryz.sizeOf9
  v9 := Tryz.zeroValue9
  t21 := Tryz.underlying21
  a21 := Tryz.isAgg21
  z21 := Tryz.sizeOf21
  v21 := Tryz.zeroValue21
  t46 := Tryz.underlying67
  a46 := Tryz.isAgg67
  z46 := Tryz.sizeOf67
  v46 := Tryz.zeroValue67
  t105 := Tryz.underlying153
  a105 := Tryz.isAgg153
  z105 := Tryz.sizeOf153
  v105 := Tryz.zeroValue153
  t119 := Tryz.underlying160
  a119 := Tryz.isAgg160
  z119 := Tryz.sizeOf160
  t138 := Tryz.underlying162
  a138 := Tryz.isAgg162
  z138 := Tryz.sizeOf162
  v138 := Tryz.zeroValue162
  t139 := Tryz.underlying163
  a139 := Tryz.isAgg163
  z139 := Tryz.sizeOf163
  v139 := Tryz.zeroValue163
  g3 := by kernel_rfl
  g4 := by kernel_rfl }
open Go.RowKit Go.Lib in
theorem Shelf.utf8_DecodeRuneInString  (s : ByteArray) (w : World) (hT : Lib.Utf8Tabs 3 4 w) :
    Calls Tryz.prog 110 #[.string s] w fun e w' => e = .returned (.tuple #[.int .i32 (Lib.decodeGo s).1, .int .i64 (Lib.decodeGo s).2]) ∧ Below w.heap.size w w' := Any.utf8_DecodeRuneInString Shelf.Laysn197  s w hT
def Shelf.Laysn119_ren : Go.Shelf.Ren := ⟨fun | 119 => 146 | n => n, fun | 4 => 4 | 21 => 21 | n => n, fun  | n => n⟩
theorem Shelf.Laysn119 : Go.Proofs.Lays.n119 Tryz.prog Shelf.Laysn119_ren := {
  mixed := by kernel_rfl
  f119 := Tryz.func146.trans (congrArg some (by kernel_rfl))
  t4 := Tryz.underlying4
  a4 := Tryz.isAgg4
  z4 := Tryz.sizeOf4
  v4 := Tryz.zeroValue4
  t21 := Tryz.underlying21
  a21 := Tryz.isAgg21
  z21 := Tryz.sizeOf21
  v21 := Tryz.zeroValue21 }
theorem Shelf.utf8_ValidRune  (r : Int) (w : World) :
    Calls Tryz.prog 146 #[.int .i32 r] w fun e w' => e = .returned (.bool (Lib.validRune r)) ∧ w' = w := Any.utf8_ValidRune Shelf.Laysn119  r w
end Go.Proofs.YtajpgigeploodaaGreatDoor
/- Which texts are types of names: plain functions. No program. -/
namespace Go.Proofs.YtajpgigeploodaaGreatDoor.Txt
open Go Go.Lib
/-- a text cut at each byte c -/
def splitOn (c : UInt8) : List UInt8 → List (List UInt8)
  | [] => [[]]
  | x :: t => if x = c then [] :: splitOn c t else match splitOn c t with
    | [] => [[x]]
    | h :: r => (x :: h) :: r
theorem splitOn_ne (c : UInt8) (l : List UInt8) : splitOn c l ≠ [] := by
  cases l with
  | nil => simp [splitOn]
  | cons x t =>
    unfold splitOn
    split
    · simp
    · split <;> simp
theorem index_cons (c x : UInt8) (t : List UInt8) : index (x :: t) [c] = if x = c then 0 else if index t [c] = -1 then -1 else index t [c] + 1 := by
  rw [index_one, index_one]
  show (if (x == c) = true then _ else _) = _
  simp only [beq_iff_eq]
theorem splitK_one (c : UInt8) : ∀ l : List UInt8, splitK [c] 0 (l.count c) l = splitOn c l
  | [] => rfl
  | x :: t => by
    have ih := splitK_one c t
    have hg := index_ge t [c]
    by_cases hx : x = c
    · subst hx
      rw [List.count_cons_self]
      unfold splitOn splitK
      rw [index_cons, if_pos rfl, if_pos rfl]
      simpa using ih
    · rw [List.count_cons_of_ne (by simpa using hx)]
      unfold splitOn
      rw [if_neg hx]
      rw [← ih]
      cases hc : t.count c with
      | zero => rfl
      | succ k =>
        unfold splitK
        rw [index_cons, if_neg hx]
        by_cases hi : index t [c] = -1
        · simp [hi]
        · have h1 : ¬ (index t [c] + 1 == -1) = true := fun e => by have := beq_iff_eq.1 e; omega
          have h2 : ¬ (index t [c] == -1) = true := fun e => hi (beq_iff_eq.1 e)
          rw [if_neg hi, if_neg h1, if_neg h2]
          have e1 : (index t [c] + 1).toNat = (index t [c]).toNat + 1 := by omega
          simp only [e1, List.length_singleton, Nat.add_zero, List.take_succ_cons]
          rw [show (index t [c]).toNat + 1 + 1 = ((index t [c]).toNat + 1) + 1 from rfl, List.drop_succ_cons]
theorem split_one (s : ByteArray) (c : UInt8) : (splitB ⟨#[c]⟩ 0 (countB s ⟨#[c]⟩) s).map (·.data.toList) = splitOn c s.data.toList ∧ (splitB ⟨#[c]⟩ 0 (countB s ⟨#[c]⟩) s).length = countB s ⟨#[c]⟩ + 1 := by
  refine ⟨?_, splitB_all ⟨#[c]⟩ (Nat.le_refl 1) 0 _ s rfl⟩
  rw [splitB_data]
  have : countB s ⟨#[c]⟩ = s.data.toList.count c := count_one c s.data.toList
  rw [this]
  exact splitK_one c _
theorem index_mem (c : UInt8) : ∀ l : List UInt8, decide (0 ≤ indexByte l c) = l.contains c
  | [] => rfl
  | x :: t => by
    have ih := index_mem c t
    have hg := indexByte_ge t c
    unfold indexByte
    by_cases hx : x = c
    · subst hx; simp
    · rw [List.contains_cons, ← ih]
      have hx2 : (c == x) = false := by simp [Ne.symm hx]
      have hx3 : (x == c) = false := by simp [hx]
      rw [hx2, hx3]
      by_cases h1 : indexByte t c = -1
      · simp [h1]
      · have : (indexByte t c == -1) = false := by simp [h1]
        rw [this]
        simp only [Bool.false_eq_true, if_false, Bool.false_or, decide_eq_decide]
        omega
end Go.Proofs.YtajpgigeploodaaGreatDoor.Txt
namespace Go.Proofs.YtajpgigeploodaaGreatDoor.Dn
set_option linter.unusedVariables false
def letter (c : UInt8) : Bool := (decide (97 ≤ c.toNat) && decide (c.toNat ≤ 122)) || (decide (65 ≤ c.toNat) && decide (c.toNat ≤ 90))
def digit (c : UInt8) : Bool := decide (48 ≤ c.toNat) && decide (c.toNat ≤ 57)
def keyRest (c : UInt8) : Bool := letter c || digit c || decide (c.toNat = 45)
def keyB : List UInt8 → Bool
  | [] => false
  | c :: t => letter c && t.all keyRest
/-- digits, without noughts ahead -/
def numB (l : List UInt8) : Bool := !l.isEmpty && (l.all digit && (decide (l = [48]) || decide (l.head? ≠ some 48)))
def typeB (l : List UInt8) : Bool := decide (l.length ≤ 20) && (keyB l || (l.contains 46 && (Txt.splitOn 46 l).all numB))
theorem keyB_snoc (l : List UInt8) (h : l ≠ []) (c : UInt8) : keyB (l ++ [c]) = (keyB l && keyRest c) := by
  cases l with
  | nil => exact absurd rfl h
  | cons x t => simp [keyB, Bool.and_assoc]
theorem keyB_false (l r : List UInt8) (h : l ≠ []) (hk : keyB l = false) : keyB (l ++ r) = false := by
  cases l with
  | nil => exact absurd rfl h
  | cons x t =>
    simp only [keyB, Bool.and_eq_false_iff, List.cons_append, List.all_append] at hk ⊢
    rcases hk with h | h
    · exact .inl h
    · exact .inr (.inl h)
end Go.Proofs.YtajpgigeploodaaGreatDoor.Dn
/- strings.IndexRune at the digits and a rune that is none of ASCII's, and has two bytes, or is none. Conditions: those. -/
namespace Go.Proofs.YtajpgigeploodaaGreatDoor.Code
open Go.RowKit
set_option linter.unusedVariables false
def digitsS : ByteArray := ⟨#[48, 49, 50, 51, 52, 53, 54, 55, 56, 57, 97, 98, 99, 100, 101, 102]⟩
set_option maxRecDepth 1000000 in
set_option maxHeartbeats 8000000 in
theorem index_two (r : Nat) (h1 : 128 ≤ r) (h2 : r < 2048) (w : World) : Calls Tryz.prog 141 #[.string ⟨#[48, 49, 50, 51, 52, 53, 54, 55, 56, 57, 97, 98, 99, 100, 101, 102]⟩, .int .i32 r] w fun e w' => e = .returned (.int .i64 (-1)) ∧ Below w.heap.size w w' := by
  have g1 : (128 : Int) ≤ (r : Int) := by omega
  have g2 : (0 : Int) ≤ (r : Int) := by omega
  have g3 : ((r : Int) == 65533) = false := by simp; omega
  have hv : Lib.validRune r = true := by unfold Lib.validRune; simp; omega
  obtain ⟨b1, b2, hb2, henc⟩ : ∃ b1 b2 : UInt8, 128 ≤ b2.toNat ∧ Utf8.encode r = ⟨#[b1, b2]⟩ := by
    have hu : Utf8.valid (r : Int) = true := by unfold Utf8.valid; simp; omega
    refine ⟨UInt8.ofNat (192 + r / 64), UInt8.ofNat (128 + r % 64), ?_, ?_⟩
    · rw [UInt8.toNat_ofNat']; omega
    · unfold Utf8.encode
      simp only [hu, if_true, Int.toNat_natCast]
      rw [if_neg (by omega), if_pos (by omega)]
  have g4 : ((49 : Int) != (b2.toNat : Int)) = true := by simp; omega
  have HI := Aside.mk (show Lib.indexByte [50, 51, 52, 53, 54, 55, 56, 57, 97, 98, 99, 100, 101, 102] b2 = -1 by
    have := Txt.index_mem b2 [50, 51, 52, 53, 54, 55, 56, 57, 97, 98, 99, 100, 101, 102]
    have hc : ([50, 51, 52, 53, 54, 55, 56, 57, 97, 98, 99, 100, 101, 102] : List UInt8).contains b2 = false := by
      rw [List.contains_eq_any_beq, List.any_eq_false]
      intro x hx
      simp only [List.mem_cons, List.not_mem_nil, or_false] at hx
      intro e
      have e2 := beq_iff_eq.1 e
      subst e2
      rcases hx with h | h | h | h | h | h | h | h | h | h | h | h | h | h <;> (rw [h] at hb2; exact absurd hb2 (by decide))
    rw [hc] at this
    have h2 := of_decide_eq_false this
    have h3 := Lib.indexByte_ge [50, 51, 52, 53, 54, 55, 56, 57, 97, 98, 99, 100, 101, 102] b2
    omega)
  have hi1 : ∀ W : World, (Instr.index 9 (.string ⟨#[48, 49, 50, 51, 52, 53, 54, 55, 56, 57, 97, 98, 99, 100, 101, 102]⟩) (.int .i64 1)).run Tryz.prog W = .ok (.int .u8 49) W := fun W => by kernel_rfl
  have hi2 : ∀ W : World, (Instr.index 9 (.string ⟨#[b1, b2]⟩) (.int .i64 1)).run Tryz.prog W = .ok (.int .u8 b2.toNat) W := fun W => by kernel_rfl
  go_enter Tryz.func141, Tryz.ntmps141
  go_wp2_with fail
  have hvr := Shelf.utf8_ValidRune r w
  rw [hv] at hvr
  refine hvr.mono ?_
  rintro e w1 ⟨rfl, rfl⟩
  clear hvr hv
  go_wp2_with fail
  go_step3
  go_wp2_with fail
  refine wp_loop_rounds 1 ?_
  rw [rounds_succ]
  go_wp2_with fail
  go_step3
  go_wp2_with fail
  go_quiet (fail)
  have HW0 := Aside.mk (below_drewN w1 nq)
  obtain ⟨W2, hW2⟩ : ∃ W2, W2 = w1.drewN nq := ⟨_, rfl⟩
  rw [← hW2] at HW0 ⊢
  clear hW2
  go_wp2_with fail
  have hib := fun W => Shelf.strings_IndexByte ⟨#[50, 51, 52, 53, 54, 55, 56, 57, 97, 98, 99, 100, 101, 102]⟩ b2.toNat W
  have hc2 : ((b2.toNat : Int).toNat.toUInt8) = b2 := by rw [Int.toNat_natCast]; exact UInt8.ofNat_toNat
  rw [hc2] at hib
  have hib2 : ∀ W, Calls Tryz.prog 145 #[.string ⟨#[50, 51, 52, 53, 54, 55, 56, 57, 97, 98, 99, 100, 101, 102]⟩, .int .u8 b2.toNat] W fun e w' => e = .returned (.int .i64 (-1)) ∧ w' = W := fun W => (hib W).mono fun e w' h => ⟨by rw [h.1]; exact congrArg (fun x => Ending.returned (.int .i64 x)) HI.out, h.2⟩
  have HB := Aside.mk hib2
  clear hib hib2 hc2
  go_quiet ((go_at_call 145; exact Calls.quiet_of_same (HB.out _)))
  go_wp2_with fail
  rw [Exit.noGoto_ret]
  go_wp2
  rw [Exit.noGoto_ret]
  go_ret
  exact ⟨rfl, below_then HW0.out (below_drewN _ _)⟩
end Go.Proofs.YtajpgigeploodaaGreatDoor.Code
/- errors.As and errors.Is at an error type of the package Code: a struct of one cell (Go's text of both is walked). No conditions beyond the shape of memory that each theorem names. -/
namespace Go.Proofs.YtajpgigeploodaaGreatDoor.AsCode
open Go.RowKit Go.Extern.Stop Go.Stop Go.Extern
theorem rlm (z : Sem Value) (f : TypeId → Addr → Nat → Nat → Sem Value) (v : Value) :
    ReflectliteValue.method z f #[v] = (do match ← ReflectliteValue.parts v with | none => z | some (t, a, fl) => f t a fl (fl % 32)) := rfl
theorem rls (v x : Value) : ReflectliteValue.set #[v, x] = (do
    let (some (dst, a, fl), some (src, b, _)) := (← ReflectliteValue.parts v, ← ReflectliteValue.parts x)
      | unsupported (.noEntry "extern/(internal/reflectlite.Value).Set.zeroValue")
    if fl / ReflectliteValue.flagAddr % 2 == 0 then unsupported (.noEntry "extern/(internal/reflectlite.Value).Set.unaddressable")
    let val ← loadVar src b
    if ← Rtype.directlyAssignable dst src then storeVar dst a val
    else if ← Rtype.implements dst src then
      if (← Rtype.kind src) == 20 then
        match val with
        | .nilIface => unsupported (.noEntry "extern/reflectlite: a nil value of one interface type handed on as a value of another")
        | _ => storeVar dst a val
      else storeVar dst a (.iface src val)
    else panicString ("reflectlite.Set: value of type " ++ (← Rtype.spelt src) ++ " is not assignable to type " ++ (← Rtype.spelt dst))
    pure (.tuple #[])) := rfl
theorem below_setRow {B g : Nat} {w w' : World} (h : Below B w w') (hB : B ≤ g) (cs : Array Value) : Below B w (w'.setRow g cs) :=
  h.trans ⟨rfl, rfl, rfl, by simp [World.setRow], fun k hk => by simp only [World.setRow, Array.getElem?_modify]; rw [if_neg (by omega)]⟩
theorem valueOfP (t : Addr) (w : World) : (ReflectliteValue.unpack (.iface 197 (.pointer (some t)))).run Tryz.prog w
    = .ok (.agg #[.pointer (some ⟨8, 197, none⟩), .pointer (some ⟨w.heap.size, 0, none⟩), .int .u64 150]) (w.alloc (.cells #[.pointer (some t)] 197)) := by kernel_rfl
theorem typeP (a : Addr) (w : World) : (ReflectliteValue.methodAny (ReflectliteValue.valueError "reflectlite.Value.Type" 0) (fun t _ _ _ => ReflectliteType.toType t) #[.agg #[.pointer (some ⟨8, 197, none⟩), .pointer (some a), .int .u64 150]]).run Tryz.prog w
    = .ok (.iface 130 (.agg #[.pointer (some ⟨8, 197, none⟩)])) w := by kernel_rfl
theorem elemP (w : World) : (ReflectliteType.method ReflectliteType.elem #[.agg #[.pointer (some ⟨8, 197, none⟩)]]).run Tryz.prog w = .ok (.iface 130 (.agg #[.pointer (some ⟨8, 196, none⟩)])) w := by kernel_rfl
theorem kindP (w : World) : ((ReflectliteType.abiMethod fun t => (fun a : Nat => Value.int IntKind.u8 (a : Int)) <$> Rtype.kind t) #[.pointer (some ⟨8, 197, none⟩)]).run Tryz.prog w = .ok (.int .u8 22) w := by kernel_rfl
theorem kindW (w : World) : ((ReflectliteType.abiMethod fun t => (fun a : Nat => Value.int IntKind.u8 (a : Int)) <$> Rtype.kind t) #[.pointer (some ⟨8, 196, none⟩)]).run Tryz.prog w = .ok (.int .u8 25) w := by kernel_rfl
theorem implementsW (w : World) : (ReflectliteType.relation "Implements" ReflectliteType.implements_ #[.agg #[.pointer (some ⟨8, 196, none⟩)], .iface 130 (.agg #[.pointer (some ⟨8, 51, none⟩)])]).run Tryz.prog w = .ok (.bool true) w := by kernel_rfl
theorem typeOfW (v : Value) (w : World) : (ReflectliteType.typeOf #[.iface 196 v]).run Tryz.prog w = .ok (.iface 130 (.agg #[.pointer (some ⟨8, 196, none⟩)])) w := by kernel_rfl
theorem assignW (w : World) : (ReflectliteType.relation "AssignableTo" ReflectliteType.assignableTo #[.agg #[.pointer (some ⟨8, 196, none⟩)], .iface 130 (.agg #[.pointer (some ⟨8, 196, none⟩)])]).run Tryz.prog w = .ok (.bool true) w := by kernel_rfl
theorem valueOfW (x : Value) (w : World) : (ReflectliteValue.unpack (.iface 196 (.agg #[x]))).run Tryz.prog w
    = .ok (.agg #[.pointer (some ⟨8, 196, none⟩), .pointer (some ⟨w.heap.size, 0, none⟩), .int .u64 153]) (w.alloc (.cells #[x] 196)) := by kernel_rfl
theorem methodKind (h : Value) (w : World) : (Go.method 328 130 (.agg #[h]) "Kind").run Tryz.prog w = .ok (165, h) w := by kernel_rfl
theorem methodElem (h : Value) (w : World) : (Go.method 328 130 (.agg #[h]) "Elem").run Tryz.prog w = .ok (177, .agg #[h]) w := by kernel_rfl
theorem methodImplements (h : Value) (w : World) : (Go.method 328 130 (.agg #[h]) "Implements").run Tryz.prog w = .ok (178, .agg #[h]) w := by kernel_rfl
theorem methodAssignableTo (h : Value) (w : World) : (Go.method 328 130 (.agg #[h]) "AssignableTo").run Tryz.prog w = .ok (175, .agg #[h]) w := by kernel_rfl
theorem parts (a : Addr) (w : World) : (ReflectliteValue.parts (.agg #[.pointer (some ⟨8, 197, none⟩), .pointer (some a), .int .u64 150])).run Tryz.prog w = .ok (some (197, a, 150)) w := by kernel_rfl
theorem partsWa (a : Addr) (w : World) : (ReflectliteValue.parts (.agg #[.pointer (some ⟨8, 196, none⟩), .pointer (some a), .int .u64 409])).run Tryz.prog w = .ok (some (196, a, 409)) w := by kernel_rfl
theorem partsW (a : Addr) (w : World) : (ReflectliteValue.parts (.agg #[.pointer (some ⟨8, 196, none⟩), .pointer (some a), .int .u64 153])).run Tryz.prog w = .ok (some (196, a, 153)) w := by kernel_rfl
theorem elemOf (w : World) : (Rtype.elem? 197).run Tryz.prog w = .ok (some 196) w := by kernel_rfl
theorem mkW (p : Addr) (w : World) : (ReflectliteValue.mk 196 p ReflectliteValue.flagAddr).run Tryz.prog w = .ok (.agg #[.pointer (some ⟨8, 196, none⟩), .pointer (some p), .int .u64 409]) w := by kernel_rfl
theorem isNil (a p : Addr) (W : World) (ha : W.cell? a = some (.pointer (some p))) :
    (ReflectliteValue.method (ReflectliteValue.valueError "reflectlite.Value.IsNil" 0) ReflectliteValue.isNil #[.agg #[.pointer (some ⟨8, 197, none⟩), .pointer (some a), .int .u64 150]]).run Tryz.prog W = .ok (.bool false) W := by
  rw [rlm]
  simp only [Sem.run_bind, parts, Result.andThen]
  simp [ReflectliteValue.isNil, loadVar, isAgg, underlying, Tryz.underlying197, ha, Result.andThen]
theorem elemV (a p : Addr) (W : World) (ha : W.cell? a = some (.pointer (some p))) :
    (ReflectliteValue.method (ReflectliteValue.valueError "reflectlite.Value.Elem" 0) ReflectliteValue.elem #[.agg #[.pointer (some ⟨8, 197, none⟩), .pointer (some a), .int .u64 150]]).run Tryz.prog W
      = .ok (.agg #[.pointer (some ⟨8, 196, none⟩), .pointer (some p), .int .u64 409]) W := by
  rw [rlm]
  simp only [Sem.run_bind, parts, Result.andThen]
  simp [ReflectliteValue.elem, loadVar, isAgg, underlying, Tryz.underlying197, ha, Result.andThen, elemOf, mkW]
theorem direct (w : World) : (Rtype.directlyAssignable 196 196).run Tryz.prog w = .ok true w := by kernel_rfl
theorem setW (g b : Nat) (old0 x : Value) (fr : Nat × Nat) (W : World) (hx : x.oneCell' = true) (hb : W.heap[b]? = some (.cells #[x] 196 fr)) (ht : W.heap[g]? = some (.cells #[old0] 196 (0, 0))) :
    (ReflectliteValue.set #[.agg #[.pointer (some ⟨8, 196, none⟩), .pointer (some ⟨g, 0, none⟩), .int .u64 409], .agg #[.pointer (some ⟨8, 196, none⟩), .pointer (some ⟨b, 0, none⟩), .int .u64 153]]).run Tryz.prog W
      = .ok (.tuple #[]) (W.setRow g #[x]) := by
  have hl := run_loadVar_row (P := Tryz.prog) W b 196 196 #[x] fr _ hb Tryz.underlying196 rfl (by kernel_rfl)
  have hs := run_storeVar_row (P := Tryz.prog) W g 196 196 #[old0] #[x] ht (by kernel_rfl) rfl (by simp [hx])
  rw [rls]
  simp only [Sem.run_bind, partsWa, partsW, Result.andThen]
  simp [ReflectliteValue.flagAddr, hl, hs, Result.andThen, direct]
set_option maxHeartbeats 4000000 in
set_option maxRecDepth 100000 in
theorem as_hit (g : Nat) (old0 x : Value) (w : World) (hx : x.oneCell' = true) (hg : w.cell? ⟨1, 0, none⟩ = some (.iface 130 (.agg #[.pointer (some ⟨8, 51, none⟩)])))
    (ht : w.heap[g]? = some (.cells #[old0] 196 (0, 0))) :
    Calls Tryz.prog 50 #[.iface 196 (.agg #[x]), .iface 197 (.pointer (some ⟨g, 0, none⟩))] w fun ev w' => ev = .returned (.bool true) ∧ Below g w w' ∧ w'.heap[g]? = some (.cells #[x] 196 (0, 0)) := by
  have h6 := @run_callFunc_extern Tryz.prog 79 _ (fun args => ReflectliteValue.unpack (args.getD 0 (.tuple #[]))) Tryz.func79 (by kernel_rfl) (by kernel_rfl) (by kernel_rfl) (by kernel_rfl)
  have h7 := @run_callFunc_extern Tryz.prog 80 _ (ReflectliteValue.methodAny (ReflectliteValue.valueError "reflectlite.Value.Type" 0) (fun t _ _ _ => ReflectliteType.toType t)) Tryz.func80 (by kernel_rfl) (by kernel_rfl) (by kernel_rfl) (by kernel_rfl)
  have h8 := @run_callFunc_extern Tryz.prog 81 _ (ReflectliteValue.method (ReflectliteValue.valueError "reflectlite.Value.IsNil" 0) ReflectliteValue.isNil) Tryz.func81 (by kernel_rfl) (by kernel_rfl) (by kernel_rfl) (by kernel_rfl)
  have h27 := @run_callFunc_extern Tryz.prog 165 _ (ReflectliteType.abiMethod fun t => do pure (.int .u8 (← Rtype.kind t))) Tryz.func165 (by kernel_rfl) (by kernel_rfl) (by kernel_rfl) (by kernel_rfl)
  have h37 := @run_callFunc_extern Tryz.prog 177 _ (ReflectliteType.method ReflectliteType.elem) Tryz.func177 (by kernel_rfl) (by kernel_rfl) (by kernel_rfl) (by kernel_rfl)
  have h38 := @run_callFunc_extern Tryz.prog 178 _ (ReflectliteType.relation "Implements" ReflectliteType.implements_) Tryz.func178 (by kernel_rfl) (by kernel_rfl) (by kernel_rfl) (by kernel_rfl)
  have h10 := @run_callFunc_extern Tryz.prog 77 _ ReflectliteType.typeOf Tryz.func77 (by kernel_rfl) (by kernel_rfl) (by kernel_rfl) (by kernel_rfl)
  have h35 := @run_callFunc_extern Tryz.prog 175 _ (ReflectliteType.relation "AssignableTo" ReflectliteType.assignableTo) Tryz.func175 (by kernel_rfl) (by kernel_rfl) (by kernel_rfl) (by kernel_rfl)
  have h11 := @run_callFunc_extern Tryz.prog 99 _ (ReflectliteValue.method (ReflectliteValue.valueError "reflectlite.Value.Elem" 0) ReflectliteValue.elem) Tryz.func99 (by kernel_rfl) (by kernel_rfl) (by kernel_rfl) (by kernel_rfl)
  have h12 := @run_callFunc_extern Tryz.prog 100 _ ReflectliteValue.set Tryz.func100 (by kernel_rfl) (by kernel_rfl) (by kernel_rfl) (by kernel_rfl)
  have tO := typeOfW
  have mA := methodAssignableTo
  have a25 := assignW
  have v25 := valueOfW
  have f6 := valueOfP
  have f7 := typeP
  have mK := methodKind
  have mE := methodElem
  have mI := methodImplements
  have k27 := kindP
  have k25 := kindW
  have e27 := elemP
  have i25 := implementsW
  have hlt : g < w.heap.size := by
    rcases Nat.lt_or_ge g w.heap.size with h | h
    · exact h
    · simp [Array.getElem?_eq_none h] at ht
  have hgg : 1 < w.heap.size := by
    rcases Nat.lt_or_ge 1 w.heap.size with h | h
    · exact h
    · simp [World.cell?, Array.getElem?_eq_none h] at hg
  have hg2 : ((w.alloc (.cells #[.pointer (some ⟨g, 0, none⟩)] 197)).alloc (.cells #[.pointer (some ⟨8, 197, none⟩), .pointer (some ⟨w.heap.size, 0, none⟩), .int .u64 150] 110)).cell? ⟨1, 0, none⟩ = some (.iface 130 (.agg #[.pointer (some ⟨8, 51, none⟩)])) := by
    rw [World.cell?_alloc_lt _ _ ⟨1, 0, none⟩ (by simp; omega), World.cell?_alloc_lt _ _ ⟨1, 0, none⟩ hgg]; exact hg
  have n8 := isNil ⟨w.heap.size, 0, none⟩ ⟨g, 0, none⟩ ((w.alloc (.cells #[.pointer (some ⟨g, 0, none⟩)] 197)).alloc (.cells #[.pointer (some ⟨8, 197, none⟩), .pointer (some ⟨w.heap.size, 0, none⟩), .int .u64 150] 110)) (by simp)
  have el := elemV ⟨w.heap.size, 0, none⟩ ⟨g, 0, none⟩ (((w.alloc (.cells #[.pointer (some ⟨g, 0, none⟩)] 197)).alloc (.cells #[.pointer (some ⟨8, 197, none⟩), .pointer (some ⟨w.heap.size, 0, none⟩), .int .u64 150] 110)).alloc (.cells #[.pointer (some ⟨8, 197, none⟩), .pointer (some ⟨w.heap.size, 0, none⟩), .int .u64 150] 110)) (by rw [World.cell?_alloc_lt _ _ ⟨w.heap.size, 0, none⟩ (by simp; omega)]; simp)
  have st := setW g (w.heap.size + 1 + 1 + 1) old0 x (0, 0) ((((w.alloc (.cells #[.pointer (some ⟨g, 0, none⟩)] 197)).alloc (.cells #[.pointer (some ⟨8, 197, none⟩), .pointer (some ⟨w.heap.size, 0, none⟩), .int .u64 150] 110)).alloc (.cells #[.pointer (some ⟨8, 197, none⟩), .pointer (some ⟨w.heap.size, 0, none⟩), .int .u64 150] 110)).alloc (.cells #[x] 196)) hx (by have := World.alloc_heap_new (((w.alloc (.cells #[.pointer (some ⟨g, 0, none⟩)] 197)).alloc (.cells #[.pointer (some ⟨8, 197, none⟩), .pointer (some ⟨w.heap.size, 0, none⟩), .int .u64 150] 110)).alloc (.cells #[.pointer (some ⟨8, 197, none⟩), .pointer (some ⟨w.heap.size, 0, none⟩), .int .u64 150] 110)) (.cells #[x] 196); simpa using this) (by rw [Below.heap_alloc _ _ _ (by simp; omega), Below.heap_alloc _ _ _ (by simp; omega), Below.heap_alloc _ _ _ (by simp; omega), Below.heap_alloc _ _ _ hlt]; exact ht)
  go_enter Tryz.func50, Tryz.ntmps50
  go_wp2
  refine wp_loop_rounds 1 ?_
  rw [rounds_succ]
  go_wp2
  go_ret
  refine ⟨rfl, ?_, ?_⟩
  · exact below_setRow ((((((Below.refl g w).alloc (by omega) _).alloc (by simp; omega) _).alloc (by simp; omega) _).alloc (by simp; omega) _)) (Nat.le_refl _) _
  · refine setRow_heap _ g #[old0] _ _ _ ?_
    rw [Below.heap_alloc _ _ _ (by simp; omega), Below.heap_alloc _ _ _ (by simp; omega), Below.heap_alloc _ _ _ (by simp; omega), Below.heap_alloc _ _ _ hlt]; exact ht
set_option maxRecDepth 100000 in
theorem as_nil (g : Nat) (old0 : Value) (w : World) (ht : w.heap[g]? = some (.cells #[old0] 196 (0, 0))) :
    Calls Tryz.prog 50 #[.nilIface, .iface 197 (.pointer (some ⟨g, 0, none⟩))] w fun ev w' => ev = .returned (.bool false) ∧ Below w.heap.size w w' := by
  go_enter Tryz.func50, Tryz.ntmps50
  go_wp2
  go_ret
  exact ⟨rfl, Below.refl _ _⟩
end Go.Proofs.YtajpgigeploodaaGreatDoor.AsCode
/- errors.Is at an error of the package Code that wraps the package's sentinel, against a sentinel: true just if it is that one (Go's text is walked). No conditions beyond the shape of memory that each theorem names. -/
namespace Go.Proofs.YtajpgigeploodaaGreatDoor.IsCode
open Go.RowKit Go.Extern.Stop Go.Stop Go.Extern
theorem isTypeOf (v : Value) (w : World) : (Extern.ReflectliteType.typeOf #[.iface 198 v]).run Tryz.prog w = .ok (.iface 130 (.agg #[.pointer (some ⟨8, 198, none⟩)])) w := by kernel_rfl
def cmpEntry : Array Value → Sem Value := Extern.ReflectliteType.method fun t => do Rtype.noPackHeld "Comparable" t; pure (.bool (← typeInfo t).comparable)
theorem isComparable (w : World) : (cmpEntry #[.agg #[.pointer (some ⟨8, 198, none⟩)]]).run Tryz.prog w = .ok (.bool true) w := by kernel_rfl
theorem isMethodComparable (v : Value) (w : World) : (Go.method 328 130 v "Comparable").run Tryz.prog w = .ok (176, v) w := by kernel_rfl
theorem isComp : (Tryz.prog.info? 198).map (·.comparable) = some true := by kernel_rfl
theorem isSize : (Tryz.prog.info? 217).map (·.size) = some 1 := by kernel_rfl
theorem noIsE (v : Value) (xT : TypeId) (w : World) : (Instr.typeAssert (.iface 198 v) xT 132 true).run Tryz.prog w = .ok (.tuple #[.nilIface, .bool false]) w := run_typeAssert_lacksB Tryz.underlying132 (by kernel_rfl) (by kernel_rfl) v xT w
theorem noUnwrapE (v : Value) (xT : TypeId) (w : World) : (Instr.typeAssert (.iface 198 v) xT 135 true).run Tryz.prog w = .ok (.tuple #[.nilIface, .bool false]) w := run_typeAssert_lacksB Tryz.underlying135 (by kernel_rfl) (by kernel_rfl) v xT w
theorem noUnwrapsE (v : Value) (xT : TypeId) (w : World) : (Instr.typeAssert (.iface 198 v) xT 137 true).run Tryz.prog w = .ok (.tuple #[.nilIface, .bool false]) w := run_typeAssert_lacksB Tryz.underlying137 (by kernel_rfl) (by kernel_rfl) v xT w
theorem noIsW (v : Value) (xT : TypeId) (w : World) : (Instr.typeAssert (.iface 196 v) xT 132 true).run Tryz.prog w = .ok (.tuple #[.nilIface, .bool false]) w := run_typeAssert_lacksB Tryz.underlying132 (by kernel_rfl) (by kernel_rfl) v xT w
theorem hasUnwrapW (v : Value) (xT : TypeId) (w : World) : (Instr.typeAssert (.iface 196 v) xT 135 true).run Tryz.prog w = .ok (.tuple #[.iface 196 v, .bool true]) w := run_typeAssert_hasB Tryz.underlying135 (by kernel_rfl) v xT w
theorem methodUnwrap (v : Value) (w : World) : (Go.method 328 196 v "Unwrap").run Tryz.prog w = .ok (190, v) w := by kernel_rfl
theorem unwrap (x : Value) (b : Addr) (w : World) (hg : w.cell? ⟨6, 0, none⟩ = some (.iface 198 (.pointer (some b)))) : Calls Tryz.prog 190 #[.agg #[x]] w fun e w' => e = .returned (.iface 198 (.pointer (some b))) ∧ w.alloc (.cells #[x] 196) = w' := by
  have hlt := World.block_lt_of_cell? w _ hg
  go_enter Tryz.func190, Tryz.ntmps190
  go_wp2
  go_ret
  exact ⟨rfl, rfl⟩
set_option maxRecDepth 100000 in
set_option maxHeartbeats 4000000 in
theorem is_same (x : Value) (b : Addr) (w : World) (hg : w.cell? ⟨6, 0, none⟩ = some (.iface 198 (.pointer (some b)))) :
    Calls Tryz.prog 49 #[.iface 196 (.agg #[x]), .iface 198 (.pointer (some b))] w fun e w' => e = .returned (.bool true) ∧ w.alloc (.cells #[x] 196) = w' := by
  obtain ⟨i, hi, hcmp⟩ := Option.map_eq_some_iff.1 isComp
  obtain ⟨j, hj, hjs⟩ := Option.map_eq_some_iff.1 isSize
  have h8 := @run_callFunc_extern Tryz.prog 77 _ Extern.ReflectliteType.typeOf Tryz.func77 (by kernel_rfl) (by kernel_rfl) (by kernel_rfl) (by kernel_rfl)
  have h32 := @run_callFunc_extern Tryz.prog 176 _ cmpEntry Tryz.func176 (by kernel_rfl) (by kernel_rfl) (by kernel_rfl) (by kernel_rfl)
  have tT := isTypeOf
  have cT := isComparable
  have mR := isMethodComparable
  have nE := noIsE
  have uE := noUnwrapE
  have vE := noUnwrapsE
  have nW := noIsW
  have uW := hasUnwrapW
  have mU := methodUnwrap
  have heq := run_eql_iface_ptr_same (P := Tryz.prog) (w.alloc (.cells #[x] 196)) b Tryz.underlying51 Tryz.underlying198 hi hcmp hj
  have hty := run_eql_iface_types (P := Tryz.prog) 196 198 (.agg #[x]) (.pointer (some b)) Tryz.underlying51 (by decide) w
  clear hi hcmp hj hjs
  have hlt := World.block_lt_of_cell? w _ hg
  go_enter Tryz.func49, Tryz.ntmps49
  go_wp2
  refine wp_loop_rounds 2 ?_
  rw [rounds_succ]
  go_wp2
  rw [rounds_succ]
  go_wp2
  go_ret
  exact ⟨rfl, rfl⟩
set_option maxRecDepth 100000 in
theorem is_nil (b : Addr) (w : World) :
    Calls Tryz.prog 49 #[.nilIface, .iface 198 (.pointer (some b))] w fun e w' => e = .returned (.bool false) ∧ w = w' := by
  have hnl := fun w => run_eql_iface_nil_left (P := Tryz.prog) (w := w) 198 (.pointer (some b)) Tryz.underlying51
  go_enter Tryz.func49, Tryz.ntmps49
  go_wp2
  go_ret
  exact ⟨rfl, rfl⟩
end Go.Proofs.YtajpgigeploodaaGreatDoor.IsCode
/- code.told: the number of an error of the package code. Conditions: the package's variable holds its sentinel. -/
namespace Go.Proofs.YtajpgigeploodaaGreatDoor.ToldCode
open Go.RowKit
theorem told_nil (w : World) (p : Nat → Addr) (h : Globs w p) : Calls Tryz.prog 150 #[.nilIface] w fun e w' => e = .returned (.int .i64 0) ∧ Below w.heap.size w w' := by
  have k0 := h.cell 6 (by decide)
  have hlt := World.block_lt_of_cell? w _ k0
  clear h
  go_enter Tryz.func150, Tryz.ntmps150
  go_wp2_with fail
  have h1 := Aside.mk (below_new w (.cells #[.int .i64 0] 196))
  refine (IsCode.is_nil _ _).mono ?_
  rintro e w0 ⟨rfl, rfl⟩
  go_wp2
  go_ret
  exact ⟨rfl, h1.out⟩
set_option maxHeartbeats 1000000 in
theorem told_wrong (x : Value) (hx : x.oneCell' = true) (w : World) (p : Nat → Addr) (h : Globs w p) :
    Calls Tryz.prog 150 #[.iface 196 (.agg #[x])] w fun e w' => e = .returned (.int .i64 50) ∧ Below w.heap.size w w' := by
  have k0 := h.cell 6 (by decide)
  have hlt := World.block_lt_of_cell? w _ k0
  go_enter Tryz.func150, Tryz.ntmps150
  go_wp2_with fail
  have h1 : Below w.heap.size w (w.alloc (.cells #[.int .i64 0] 196)) := below_new _ _
  have k1 := cell_below k0 h1
  refine (IsCode.is_same x _ _ k1).mono ?_
  rintro e w1 ⟨rfl, hb⟩
  have h2 : Below w.heap.size w w1 := below_then h1 (by rw [← hb]; exact below_new _ _)
  have hc : w1.heap[w.heap.size]? = some (.cells #[.int .i64 0] 196 (0, 0)) := by rw [← hb]; exact blk_below (World.alloc_heap_new w _) (below_new _ _)
  have HC := Aside.mk hc
  have H2 := Aside.mk h2
  have H3 := Aside.mk (h.below h2).et
  have hlt1 : w.heap.size < w1.heap.size := (Array.getElem?_eq_some_iff.1 hc).1
  clear k0 k1 hb hlt h h1 h2 hc
  go_wp2_with fail
  refine (AsCode.as_hit w.heap.size (.int .i64 0) x _ hx H3.out HC.out).mono ?_
  rintro e w0 ⟨rfl, hb, hc⟩
  have H0 := Aside.mk (H2.out.trans hb)
  clear hb hc
  go_wp2
  go_ret
  exact ⟨rfl, H0.out⟩
end Go.Proofs.YtajpgigeploodaaGreatDoor.ToldCode
/- What the walks ask of the package-level variables: the sentinel errors, MaxLen's number, the decoder's two tables. It lives on in later worlds. -/
namespace Go.Proofs.YtajpgigeploodaaGreatDoor
open Go.RowKit
structure Env (w : World) (p : Nat → Addr) : Prop where
  gl : Globs w p
  ml : ∃ m, w.cell? ⟨2, 0, none⟩ = some (.int .i64 m)
  ut : Lib.Utf8Tabs 3 4 w
theorem tabs_below {w w' : World} (h : Lib.Utf8Tabs 3 4 w) (hb : Below w.heap.size w w') : Lib.Utf8Tabs 3 4 w' :=
  ⟨fun c hc => cell_below (h.1 c hc) hb, fun i hi => ⟨cell_below (h.2 i hi).1 hb, cell_below (h.2 i hi).2 hb⟩⟩
theorem Env.below {w w' : World} {p : Nat → Addr} (h : Env w p) (hb : Below w.heap.size w w') : Env w' p where
  gl := h.gl.below hb
  ml := h.ml.imp fun _ hm => cell_below hm hb
  ut := tabs_below h.ut hb
end Go.Proofs.YtajpgigeploodaaGreatDoor
