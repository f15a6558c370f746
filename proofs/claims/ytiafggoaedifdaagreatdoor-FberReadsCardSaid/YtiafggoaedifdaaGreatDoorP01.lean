/- Several texts, one behind the other. Contracts of functions of Go's library, as the kit's shelf proves them of whatever program, at this program's numbers. Each states its own conditions. What the package-level variables of this seat hold: each sentinel error a pointer of its own, errors.errorType its handle. Conditions: none (definitions, and that they live on in later worlds). A world that turned into a later one: what is no block of a given kind lies as it lay. No conditions. What the walks ask of the package-level variables: the sentinel errors, MaxLen's number, the decoder's two tables. It lives on in later worlds. A range over a function, in line: the loop's statement by the walk of the function that is ranged over, a call of yield by the walk of the body. Laws of whatever program; conditions: the loop's record lies where it was laid. utf.Right: is a text right? (its walk over signs). Conditions: the decoder's tables are laid; at most 10^9 bytes. -/
import Derived.Shelf.Unicode.DecodeAny
import Derived.Shelf.Small.Utf8
import Derived.Test.YtiafggoaedifdaaGreatDoorProg
import Derived.Below
import Derived.KernelRfl
import Derived.RangeFuncRecord
import Derived.WalkKit
import Derived.Deep.QuietTactic
import Derived.Shelf.Unicode.DecodeSlow
import Derived.RangeFuncNested
import Derived.RangeFuncBound
import Derived.RangeFuncCalls
import Derived.RangeFuncLeaves
import Derived.Shelf.Abstract
import Derived.OwnWalkIn
import Derived.TacticsInMore
import Derived.LoopNIn
import Derived.LoopIn
import Derived.Lib.TrimU
import Derived.Lib.OthersKept
import Derived.Lib.RuneCountTail
import Derived.Deep.LoopGhost
/- Contracts of functions of Go's library, as the kit's shelf proves them of whatever program, at this program's numbers. Each states its own conditions. -/
namespace Go.Proofs.YtiafggoaedifdaaGreatDoor
open Go.Shelf
def Shelf.Laysn197_ren : Go.Shelf.Ren := ⟨fun | 197 => 128 | 260 => 141 | n => n, fun | 0 => 0 | 3 => 3 | 4 => 4 | 5 => 5 | 9 => 9 | 21 => 21 | 46 => 74 | 105 => 200 | 119 => 225 | 138 => 227 | 139 => 228 | n => n, fun | 3 => 11 | 4 => 12 | n => n⟩
theorem Shelf.Laysn197 : Go.Proofs.Lays.n197 Tryz.prog Shelf.Laysn197_ren := {
 mixed := by kernel_rfl
 f197 := Tryz.func128.trans (congrArg some (by kernel_rfl))
 f260 := Tryz.func141.trans (congrArg some (by kernel_rfl))
 t0 := Tryz.underlying0
 a0 := Tryz.isAgg0
 z0 := Tryz.sizeOf0
 v0 := Tryz.zeroValue0
 t3 := Tryz.underlying3
 a3 := Tryz.isAgg3
 z3 := Tryz.sizeOf3
 v3 := Tryz.zeroValue3
 t4 := Tryz.underlying4
 a4 := Tryz.isAgg4
 z4 := Tryz.sizeOf4
 v4 := Tryz.zeroValue4
 t5 := Tryz.underlying5
 a5 := Tryz.isAgg5
 z5 := Tryz.sizeOf5
 v5 := Tryz.zeroValue5
 t9 := Tryz.underlying9
 a9 := Tryz.isAgg9
 z9 := Tryz.sizeOf9
 v9 := Tryz.zeroValue9
 t21 := Tryz.underlying21
 a21 := Tryz.isAgg21
 z21 := Tryz.sizeOf21
 v21 := Tryz.zeroValue21
 t46 := Tryz.underlying74
 a46 := Tryz.isAgg74
 z46 := Tryz.sizeOf74
 v46 := Tryz.zeroValue74
 t105 := Tryz.underlying200
 a105 := Tryz.isAgg200
 z105 := Tryz.sizeOf200
 v105 := Tryz.zeroValue200
 t119 := Tryz.underlying225
 a119 := Tryz.isAgg225
 z119 := Tryz.sizeOf225
 t138 := Tryz.underlying227
 a138 := Tryz.isAgg227
 z138 := Tryz.sizeOf227
 v138 := Tryz.zeroValue227
 t139 := Tryz.underlying228
 a139 := Tryz.isAgg228
 z139 := Tryz.sizeOf228
 v139 := Tryz.zeroValue228
 g3 := by kernel_rfl
 g4 := by kernel_rfl }
open Go.RowKit Go.Lib in
theorem Shelf.utf8_DecodeRuneInString  (s : ByteArray) (w : World) (hT : Lib.Utf8Tabs 11 12 w) :
  Calls Tryz.prog 128 #[.string s] w fun e w' => e = .returned (.tuple #[.int .i32 (Lib.decodeGo s).1, .int .i64 (Lib.decodeGo s).2]) ∧ Below w.heap.size w w' := Any.utf8_DecodeRuneInString Shelf.Laysn197  s w hT
def Shelf.Laysn119_ren : Go.Shelf.Ren := ⟨fun | 119 => 173 | n => n, fun | 4 => 4 | 21 => 21 | n => n, fun  | n => n⟩
theorem Shelf.Laysn119 : Go.Proofs.Lays.n119 Tryz.prog Shelf.Laysn119_ren := {
 mixed := by kernel_rfl
 f119 := Tryz.func173.trans (congrArg some (by kernel_rfl))
 t4 := Tryz.underlying4
 a4 := Tryz.isAgg4
 z4 := Tryz.sizeOf4
 v4 := Tryz.zeroValue4
 t21 := Tryz.underlying21
 a21 := Tryz.isAgg21
 z21 := Tryz.sizeOf21
 v21 := Tryz.zeroValue21 }
theorem Shelf.utf8_ValidRune  (r : Int) (w : World) :
  Calls Tryz.prog 173 #[.int .i32 r] w fun e w' => e = .returned (.bool (Lib.validRune r)) ∧ w' = w := Any.utf8_ValidRune Shelf.Laysn119  r w
end Go.Proofs.YtiafggoaedifdaaGreatDoor
/- What the package-level variables of this seat hold: each sentinel error a pointer of its own, errors.errorType its handle. Conditions: none (definitions, and that they live on in later worlds). -/
namespace Go.Proofs.YtiafggoaedifdaaGreatDoor
open Go.RowKit
def bt (s : ByteArray) (i : Int) : Int := if h : i.toNat < s.size then ((s[i.toNat]'h).toNat : Int) else 0
theorem bt_at (s : ByteArray) (i : Int) : ∀ h : i.toNat < s.size, ((s[i.toNat]'h).toNat : Int) = bt s i := fun h => by simp [bt, h]
theorem bt_range (s : ByteArray) (i : Int) : 0 ≤ bt s i ∧ bt s i ≤ 255 := by
 unfold bt
 split
 ·rename_i h
  have := (s[i.toNat]'h).toNat_lt
  omega
 ·omega
structure Aside (p : Prop) : Prop where mk :: (out : p)
theorem below_then {w w1 w2 : World} (h : Below w.heap.size w w1) (k : Below w1.heap.size w1 w2) : Below w.heap.size w w2 := h.trans (k.mono h.size)
def senNums : List Nat := [0, 1, 2, 3, 5, 6, 8, 9, 10]
structure Globs (w : World) (p : Nat → Addr) : Prop where
 cell : ∀ g, g ∈ senNums → w.cell? ⟨g, 0, none⟩ = some (.iface 266 (.pointer (some (p g))))
 blk : ∀ g, g ∈ senNums → ∃ c t, w.heap[(p g).block]? = some (.cells c t (0, 0))
 inj : ∀ g h, g ∈ senNums → h ∈ senNums → g ≠ h → p g ≠ p h
 et : w.cell? ⟨4, 0, none⟩ = some (.iface 178 (.agg #[.pointer (some ⟨16, 61, none⟩)]))
theorem Globs.below {w w' : World} {p : Nat → Addr} (h : Globs w p) (hb : Below w.heap.size w w') : Globs w' p where
 cell := fun g hg => (hb.cell (World.block_lt_of_cell? w _ (h.cell g hg))).trans (h.cell g hg)
 blk := fun g hg => by
  obtain ⟨c, t, hc⟩ := h.blk g hg
  exact ⟨c, t, (hb.block _ (Array.getElem?_eq_some_iff.1 hc).1).trans hc⟩
 inj := h.inj
 et := (hb.cell (World.block_lt_of_cell? w _ h.et)).trans h.et
def GFree (p : Nat → Addr) (g : Nat) : Prop := (∀ n, n ∈ senNums → n ≠ g ∧ (p n).block ≠ g) ∧ 4 ≠ g
theorem Globs.free {w : World} {p : Nat → Addr} (h : Globs w p) {g : Nat} (hg : w.heap.size ≤ g) : GFree p g :=
 ⟨fun n hn => ⟨by have := World.block_lt_of_cell? w _ (h.cell n hn); simp at this; omega, by obtain ⟨c, t, hc⟩ := h.blk n hn; have := (Array.getElem?_eq_some_iff.1 hc).1; omega⟩,
  by have := World.block_lt_of_cell? w _ h.et; simp at this; omega⟩
theorem cell_grown {w w' : World} {a : Addr} {v : Value} {row : Option Nat} (h : w.cell? a = some v) (hg : w.grownBy w' row) (hn : some a.block ≠ row) : w'.cell? a = some v :=
 (World.cell?_of_block (hg.block _ (World.block_lt_of_cell? w _ h) hn)).trans h
theorem blk_grown {w w' : World} {b : Nat} {o : Obj} {row : Option Nat} (h : w.heap[b]? = some o) (hg : w.grownBy w' row) (hn : some b ≠ row) : w'.heap[b]? = some o :=
 (hg.block _ (Array.getElem?_eq_some_iff.1 h).1 hn).trans h
theorem Globs.grown {w w' : World} {p : Nat → Addr} (h : Globs w p) {g : Nat} (hf : GFree p g) (hg : w.grownBy w' (some g)) : Globs w' p where
 cell := fun n hn => cell_grown (h.cell n hn) hg (by have := (hf.1 n hn).1; simpa using this)
 blk := fun n hn => by
  obtain ⟨c, t, hc⟩ := h.blk n hn
  exact ⟨c, t, blk_grown hc hg (by have := (hf.1 n hn).2; simpa using this)⟩
 inj := h.inj
 et := cell_grown h.et hg (by have := hf.2; simpa using this)
theorem grown_refl (w : World) (row : Option Nat) : w.grownBy w row := World.grownBy.refl w row
theorem grown_below {w w' w2 : World} {row : Option Nat} (h : w.grownBy w' row) (hb : Below w'.heap.size w' w2) : w.grownBy w2 row :=
 ⟨hb.os.trans h.os, hb.tape.trans h.tape, hb.output.trans h.output, Nat.le_trans h.size hb.size, fun i hi hr => (hb.block i (Nat.lt_of_lt_of_le hi h.size)).trans (h.block i hi hr)⟩
theorem below_grown {w w' w2 : World} {g : Nat} (h : Below w.heap.size w w') (hb : w'.grownBy w2 (some g)) (hg : w.heap.size ≤ g) : Below w.heap.size w w2 :=
 h.grown hb h.size (by intro k hk; cases hk; exact hg)
theorem below_drew (w : World) : Below w.heap.size w w.drew := (Below.refl _ _).drew
theorem below_new (w : World) (o : Obj) : Below w.heap.size w (w.alloc o) := (Below.refl _ _).alloc (Nat.le_refl _) _
theorem below_new_drew (w : World) (o : Obj) : Below w.heap.size w (w.alloc o).drew := ((Below.refl _ _).alloc (Nat.le_refl _) _).drew
theorem cell_new (w : World) (cs : Array Value) (t : TypeId) (fr : Nat × Nat) (j : Nat) {v : Value} (h : cs[j]? = some v) : (w.alloc (.cells cs t fr)).cell? ⟨w.heap.size, j, none⟩ = some v := by
 have hh : (w.alloc (.cells cs t fr)).heap[w.heap.size]? = some (.cells cs t fr) := by show (w.heap.push _)[w.heap.size]? = _; simp
 simp only [World.cell?, hh]; simpa using h
theorem cell_below {w w' : World} {a : Addr} {v : Value} (h : w.cell? a = some v) (hb : Below w.heap.size w w') : w'.cell? a = some v :=
 (hb.cell (World.block_lt_of_cell? w _ h)).trans h
theorem blk_below {w w' : World} {b : Nat} {o : Obj} (h : w.heap[b]? = some o) (hb : Below w.heap.size w w') : w'.heap[b]? = some o :=
 (hb.block _ (Array.getElem?_eq_some_iff.1 h).1).trans h
theorem frz {w : World} {g : Nat} {cs : Array Value} {t : TypeId} (h : w.heap[g]? = some (.cells cs t (0, 0))) (j : Nat) : w.frozen? ⟨g, j, none⟩ = false := by
 simp only [World.frozen?, h]
 simp
theorem cel {w : World} {g : Nat} {cs : Array Value} {t : TypeId} {fr : Nat × Nat} (h : w.heap[g]? = some (.cells cs t fr)) (j : Nat) {v : Value} (hv : cs[j]? = some v) : w.cell? ⟨g, j, none⟩ = some v := by
 simp only [World.cell?, h]
 simpa using hv
theorem set_blk {w : World} {g : Nat} {cs : Array Value} {t : TypeId} {fr : Nat × Nat} (h : w.heap[g]? = some (.cells cs t fr)) (j : Nat) (v : Value) : (w.setCell ⟨g, j, none⟩ v).heap[g]? = some (.cells (cs.setIfInBounds j v) t fr) := by
 simp only [World.setCell, Array.getElem?_modify, h]
 simp
theorem set_grown (w : World) (g j : Nat) (v : Value) : w.grownBy (w.setCell ⟨g, j, none⟩ v) (some g) :=
 ⟨rfl, rfl, rfl, by simp [World.setCell], fun i _ hr => Below.heap_setCell w ⟨g, j, none⟩ v i (by simpa using hr)⟩
theorem grown_trans {w w1 w2 : World} {row : Option Nat} (h : w.grownBy w1 row) (k : w1.grownBy w2 row) : w.grownBy w2 row :=
 ⟨k.os.trans h.os, k.tape.trans h.tape, k.output.trans h.output, Nat.le_trans h.size k.size, fun i hi hr => (k.block i (Nat.lt_of_lt_of_le hi h.size) hr).trans (h.block i hi hr)⟩
theorem grown_drew {w w1 : World} {row : Option Nat} (h : w.grownBy w1 row) : w.grownBy w1.drew row := ⟨h.os, h.tape, h.output, h.size, h.block⟩
theorem grown_of_below {w w1 : World} (h : Below w.heap.size w w1) (row : Option Nat) : w.grownBy w1 row := ⟨h.os, h.tape, h.output, h.size, fun i hi _ => h.block i hi⟩
theorem below_drewN (w : World) (n : Nat) : Below w.heap.size w (w.drewN n) := ⟨rfl, rfl, rfl, Nat.le_refl _, fun _ _ => rfl⟩
end Go.Proofs.YtiafggoaedifdaaGreatDoor
/- A world that turned into a later one: what is no block of a given kind lies as it lay. No conditions. -/
namespace Go.Proofs.YtiafggoaedifdaaGreatDoor
open Go.RowKit
set_option linter.unusedVariables false
structure Upd (S : Nat → Prop) (w w' : World) : Prop where
 os : w'.os = w.os
 tape : w'.tape = w.tape
 output : w'.output = w.output
 size : w.heap.size ≤ w'.heap.size
 block : ∀ k, k < w.heap.size → ¬ S k → w'.heap[k]? = w.heap[k]?
theorem Upd.refl (S : Nat → Prop) (w : World) : Upd S w w := ⟨rfl, rfl, rfl, Nat.le_refl _, fun _ _ _ => rfl⟩
theorem Upd.trans {S : Nat → Prop} {a b c : World} (h : Upd S a b) (k : Upd S b c) : Upd S a c :=
 ⟨k.os.trans h.os, k.tape.trans h.tape, k.output.trans h.output, Nat.le_trans h.size k.size, fun i hi hs => (k.block i (Nat.lt_of_lt_of_le hi h.size) hs).trans (h.block i hi hs)⟩
theorem Upd.mono {S S' : Nat → Prop} {a b : World} (h : Upd S a b) (hs : ∀ k, S k → S' k) : Upd S' a b := ⟨h.os, h.tape, h.output, h.size, fun i hi hn => h.block i hi (fun e => hn (hs i e))⟩
theorem Upd.of_grown {S : Nat → Prop} {a b : World} {f : Nat} (h : a.grownBy b (some f)) (hf : S f) : Upd S a b := ⟨h.os, h.tape, h.output, h.size, fun i hi hn => h.block i hi (fun e => hn (by cases e; exact hf))⟩
theorem Upd.of_below {S : Nat → Prop} {a b : World} (h : Below a.heap.size a b) : Upd S a b := ⟨h.os, h.tape, h.output, h.size, fun i hi _ => h.block i hi⟩
theorem Upd.cell {S : Nat → Prop} {w w' : World} (h : Upd S w w') {a : Addr} {v : Value} (hc : w.cell? a = some v) (hn : ¬ S a.block) : w'.cell? a = some v :=
 (World.cell?_of_block (h.block _ (World.block_lt_of_cell? w _ hc) hn)).trans hc
theorem Upd.blk {S : Nat → Prop} {w w' : World} (h : Upd S w w') {b : Nat} {o : Obj} (hc : w.heap[b]? = some o) (hn : ¬ S b) : w'.heap[b]? = some o :=
 (h.block _ (Array.getElem?_eq_some_iff.1 hc).1 hn).trans hc
def GFreeS (p : Nat → Addr) (S : Nat → Prop) : Prop := (∀ n, n ∈ senNums → ¬ S n ∧ ¬ S (p n).block) ∧ ¬ S 4
theorem Globs.upd {w w' : World} {p : Nat → Addr} (h : Globs w p) {S : Nat → Prop} (hf : GFreeS p S) (hg : Upd S w w') : Globs w' p where
 cell := fun n hn => hg.cell (h.cell n hn) (hf.1 n hn).1
 blk := fun n hn => by
  obtain ⟨c, t, hc⟩ := h.blk n hn
  exact ⟨c, t, hg.blk hc (hf.1 n hn).2⟩
 inj := h.inj
 et := hg.cell h.et hf.2
theorem putObj_upd (w : World) (l : Nat) (o : Obj) : Upd (fun k => k = l) w (w.putObj l o) :=
 ⟨rfl, rfl, rfl, by rw [World.putObj_size]; exact Nat.le_refl _, fun k _ hn => World.putObj_heap_other hn⟩
theorem Globs.freeS {w : World} {p : Nat → Addr} (h : Globs w p) {S : Nat → Prop} (hS : ∀ k, S k → w.heap.size ≤ k) : GFreeS p S :=
 ⟨fun n hn => ⟨fun e => by have := World.block_lt_of_cell? w _ (h.cell n hn); have := hS _ e; simp at *; omega, fun e => by obtain ⟨c, t, hc⟩ := h.blk n hn; have := (Array.getElem?_eq_some_iff.1 hc).1; have := hS _ e; omega⟩,
  fun e => by have := World.block_lt_of_cell? w _ h.et; have := hS _ e; simp at *; omega⟩
theorem grown_upd {w a b : World} {f : Nat} {S : Nat → Prop} (h : w.grownBy a (some f)) (u : Upd S a b) (hS : ∀ k, S k → w.heap.size ≤ k ∨ k = f) : w.grownBy b (some f) :=
 ⟨u.os.trans h.os, u.tape.trans h.tape, u.output.trans h.output, Nat.le_trans h.size u.size, fun i hi hr => (u.block i (Nat.lt_of_lt_of_le hi h.size) (fun e => by rcases hS i e with h1 | h1; omega; exact hr (by rw [h1]))).trans (h.block i hi hr)⟩
theorem Upd.to_below {w a b : World} {S : Nat → Prop} (h : Below w.heap.size w a) (u : Upd S a b) (hS : ∀ k, S k → w.heap.size ≤ k) : Below w.heap.size w b :=
 ⟨u.os.trans h.os, u.tape.trans h.tape, u.output.trans h.output, Nat.le_trans h.size u.size, fun i hi => (u.block i (Nat.lt_of_lt_of_le hi h.size) (fun e => by have := hS i e; omega)).trans (h.block i hi)⟩
end Go.Proofs.YtiafggoaedifdaaGreatDoor
/- What the walks ask of the package-level variables: the sentinel errors, MaxLen's number, the decoder's two tables. It lives on in later worlds. -/
namespace Go.Proofs.YtiafggoaedifdaaGreatDoor
open Go.RowKit
structure Env (w : World) (p : Nat → Addr) : Prop where
 gl : Globs w p
 ml : ∃ m, w.cell? ⟨7, 0, none⟩ = some (.int .i64 m)
 ut : Lib.Utf8Tabs 11 12 w
theorem tabs_below {w w' : World} (h : Lib.Utf8Tabs 11 12 w) (hb : Below w.heap.size w w') : Lib.Utf8Tabs 11 12 w' :=
 ⟨fun c hc => cell_below (h.1 c hc) hb, fun i hi => ⟨cell_below (h.2 i hi).1 hb, cell_below (h.2 i hi).2 hb⟩⟩
theorem Env.below {w w' : World} {p : Nat → Addr} (h : Env w p) (hb : Below w.heap.size w w') : Env w' p where
 gl := h.gl.below hb
 ml := h.ml.imp fun _ hm => cell_below hm hb
 ut := tabs_below h.ut hb
end Go.Proofs.YtiafggoaedifdaaGreatDoor
/- A range over a function, in line: the loop's statement by the walk of the function that is ranged over, a call of yield by the walk of the body. Laws of whatever program; conditions: the loop's record lies where it was laid. -/
namespace Go.Proofs.YtiafggoaedifdaaGreatDoor.Rng
open Go.RowKit Go.Shelf
set_option linter.unusedVariables false
variable {P : Program}
structure Rec where
 fn : FuncId
 tmps : Array Value
 params : Array Tmp
 assign : Code
 body : Code
 defers : Nat
def Rec.at (r : Rec) (st : LoopState) (pe : Option Code) : Obj := .loop { state := st, pending := pe, fn := r.fn, tmps := r.tmps, params := r.params, assign := r.assign, body := r.body, defers := r.defers }
theorem wp_range {n : Nat} {g : Operand} {ps : Array Tmp} {assign body : Code} {Q : Exit → Act → World → Prop} {a : Act} {w : World} {gf : Nat} {lb : Array Value}
    (hg : a.eval g = .func (.func gf) #[] lb) (eg : ∀ args w, (callFunc gf args).run P w = .ok (.enter gf args) w)
    (h : ∀ fn, Calls P gf (#[.func (.yield (w.heap.size + 1)) #[] #[]] ++ lb) ((w.alloc (.deferred (some []))).alloc (Rec.at ⟨fn, a.tmps, ps, assign, body, w.heap.size⟩ .ready none)) fun e w3 =>
      (∃ v, e = .returned v) ∧ ∃ st pe, st ≠ .busy ∧ w3.heap[w.heap.size + 1]? = some (Rec.at ⟨fn, a.tmps, ps, assign, body, w.heap.size⟩ st pe) ∧
        (match pe with
         | none => Q .normal { a with defers := { target := .collected w.heap.size, args := #[] } :: a.defers } (w3.putObj (w.heap.size + 1) (Rec.at ⟨fn, a.tmps, ps, assign, body, w.heap.size⟩ .exhausted pe))
         | some c => c.wp P Q { a with defers := { target := .collected w.heap.size, args := #[] } :: a.defers } (w3.putObj (w.heap.size + 1) (Rec.at ⟨fn, a.tmps, ps, assign, body, w.heap.size⟩ .exhausted pe)))) :
    (Code.rangeFunc g ps assign body).wp P Q a w := by
  refine (wpIn_wide (n := n)).1 (wpIn_rangeFunc fun fn _ => ?_)
  refine ⟨w.heap.size + 1, [{ target := .collected w.heap.size, args := #[] }], (w.alloc (.deferred (some []))).alloc (Rec.at ⟨fn, a.tmps, ps, assign, body, w.heap.size⟩ .ready none), { target := .fn (.func gf) lb, args := #[.func (.yield (w.heap.size + 1)) #[] #[]] }, ((w.alloc (.deferred (some []))).alloc (Rec.at ⟨fn, a.tmps, ps, assign, body, w.heap.size⟩ .ready none)), gf,
    #[.func (.yield (w.heap.size + 1)) #[] #[]] ++ lb, ((w.alloc (.deferred (some []))).alloc (Rec.at ⟨fn, a.tmps, ps, assign, body, w.heap.size⟩ .ready none)), run_enterLoop_outer _ _ _ _ _, ?_, fun f' _ => trivial, ?_, fun h => by simp [Fence.wide] at h, ?_⟩
  · simp only [resolve, hg]
    simp [go_sem]
  · simp [invoke, go_sem, eg]
  · refine callsIn_wide.2 ((h fn).mono ?_)
    rintro e w3 ⟨⟨v, rfl⟩, st, pe, hst, hl, hq⟩
    refine ⟨pe, _, run_endLoop (P := P) hl (by simpa using hst), ?_⟩
    cases pe with
    | none => exact hq
    | some c => exact (wpIn_wide).2 hq
theorem round {m l : Nat} {r : Rec} {tmps : Array Value} {W : World} {R : Ending → World → Prop} (hl : W.heap[l]? = some (r.at .ready none))
  (h : r.assign.wpIn (Fence.wide.inRound l) m P (Exit.then (fun a1 W1 => W1.heap[l]? = some (r.at .ready none) ∧
   r.body.wpIn (Fence.wide.inRound l) m P (fun e _ W3 => W3.heap[l]? = some (r.at .busy none) ∧
    match e with
    | .normal => R (.returned (.bool true)) (W3.putObj l (r.at .ready none))
    | .ret => R (.returned (.bool false)) (W3.putObj l (r.at .done (some .ret)))
    | .exit id => R (.returned (.bool false)) (W3.putObj l (r.at .done (some (.exit id))))
    | .goto t => R (.returned (.bool false)) (W3.putObj l (r.at .done (some (.goto t))))
    | _ => False) a1 (W1.putObj l (r.at .busy none))) (fun _ _ _ => False)) { tmps := tmps, defers := [] } W) :
  RoundIn Fence.wide m P l r.fn tmps r.assign r.body W R := by
 refine roundIn_of_wpIn trivial (wpIn_mono h ?_)
 intro e a1 W1 hq
 cases e with
 | normal =>
  obtain ⟨h1, h2⟩ := hq
  refine ⟨_, run_beginRound h1 rfl, wpIn_mono h2 ?_⟩
  intro e a3 W3 hp
  obtain ⟨h3, h4⟩ := hp
  cases e with
  | normal => exact ⟨_, _, run_endRound (P := P) none h3, h4⟩
  | ret => exact ⟨_, _, run_endRound (P := P) (some .ret) h3, h4⟩
  | exit id => exact ⟨_, _, run_endRound (P := P) (some (.exit id)) h3, h4⟩
  | goto t => exact ⟨_, _, run_endRound (P := P) (some (.goto t)) h3, h4⟩
  | panic c => exact h4.elim
  | outgrown => exact h4.elim
 | exit id => exact hq.elim
 | goto t => exact hq.elim
 | ret => exact hq.elim
 | panic c => exact hq.elim
 | outgrown => exact hq.elim
theorem calls_of_marks {n : Nat} {f : FuncId} {fn : Func} {c : Code} {args : Array Value} {w : World} {R : Ending → World → Prop}
  (hf : P.funcs[f]? = some fn) (hb : fn.body = some c)
  (h : c.wp P (bodyPostM Fence.wide n P fn R) { tmps := args ++ Array.replicate (fn.ntmps - args.size) undef, defers := [] } w) : Calls P f args w R :=
 callsIn_wide.1 (callsIn_of_wp_marks (n := n) hf hb trivial (wpIn_wide.2 h))
end Go.Proofs.YtiafggoaedifdaaGreatDoor.Rng
/- utf.Right: is a text right? (its walk over signs). Conditions: the decoder's tables are laid; at most 10^9 bytes. -/
namespace Go.Proofs.YtiafggoaedifdaaGreatDoor.Utf
open Go.RowKit Go.Lib
set_option linter.unusedVariables false
def utfR (s : ByteArray) : Nat → Nat → Bool
 | 0, _ => true
 | f + 1, pos => if pos < s.size then (if (Utf8.decode s pos).1 == 65533 && (Utf8.decode s pos).2 == 1 then false else utfR s f (pos + (Utf8.decode s pos).2)) else true
def utfB (s : ByteArray) : Bool := utfR s s.size 0
theorem decode_tail (s : ByteArray) (pos : Nat) (h : pos < s.size) : Lib.decodeGo (s.extract pos s.size) = Utf8.decode s pos := by
 unfold Lib.decodeGo
 rw [if_neg (by rw [Lib.tail_size]; omega), Lib.tail_decode, Nat.add_zero]
attribute [local go_sem] Oper.semAt_some
def Walked (J : World → Prop) (E : Addr) (s : ByteArray) (W : World) : Prop :=
 (utfB s = true ∧ J W) ∨ (utfB s = false ∧ ∃ (n : Int) (W1 : World), J W1 ∧ W = W1.setCell E (.iface 261 (.agg #[.int .i64 n])))
set_option maxHeartbeats 4000000 in
theorem signs_iter {l0 Tx Ex K : Nat} {E : Addr} {s : ByteArray} (hs : s.size ≤ 1000000000) (J : World → Prop)
  (hJt : ∀ W, J W → W.cell? ⟨Tx, 0, none⟩ = some (.string s)) (hJe : ∀ W, J W → W.cell? ⟨Ex, 0, none⟩ = some (.pointer (some E))) (hJE : ∀ W, J W → ∃ v, W.cell? E = some v) (hJf : ∀ W, J W → W.frozen? E = false)
  (hJu : ∀ W, J W → Lib.Utf8Tabs 11 12 W) (hJb : ∀ W W', J W → Below K W W' → J W') (hJs : ∀ W, J W → K ≤ W.heap.size)
  (hY : ∀ (k r : Int) W, J W → ∃ fn tmps assign body, (Instr.yield l0 #[.int .i64 k, .int .i32 r]).run Tryz.prog W = .ok (.round l0 fn tmps assign body) W ∧ RoundIn Fence.wide 0 Tryz.prog l0 fn tmps assign body W (fun e W' => e = .returned (.bool true) ∧ J W' ∧ ∀ j, K ≤ j → W'.heap[j]? = W.heap[j]?))
  (W : World) (h0 : J W) (hK : W.heap.size = K) :
  Calls Tryz.prog 175 #[.func (.yield l0) #[] #[], .pointer (some ⟨Tx, 0, none⟩), .pointer (some ⟨Ex, 0, none⟩)] W fun e W' => (∃ v, e = .returned v) ∧ Walked J E s W' := by
 have c0 := hJt W h0
 subst hK
 go_enter Tryz.func175, Tryz.ntmps175
 go_wp2
 go_step3
 go_wp2
 go_step3
 go_wp2
 go_loopg [] s.size (fun gk wr => Aside (∃ pos : Nat, wr.heap[W.heap.size]? = some (.stringIter s pos) ∧ J wr ∧ s.size ≤ pos + gk ∧ utfR s gk pos = utfB s))
 case atStart => exact ⟨⟨0, World.iter_heap W s 0, hJb _ _ h0 (below_new _ _), by omega, rfl⟩⟩
 case round =>
  obtain ⟨pos, hit, hj, hgk, hu⟩ := hrel.out
  clear hrel c0
  have HU := Aside.mk hu
  have HJ := Aside.mk hj
  clear hu hj
  by_cases hp : pos < s.size
  ·obtain ⟨m, rfl⟩ : ∃ m, gk = m + 1 := ⟨gk - 1, by omega⟩
   have hnx : ∀ ty, (Instr.next (.pointer (some ⟨W.heap.size, 0, none⟩)) true ty).run Tryz.prog wr = _ := fun ty => Lib.run_next_any_at wr W.heap.size s pos ty hit hp
   have HW1 := Aside.mk (Lib.width_pos s pos)
   have HD := Aside.mk (decode_tail s pos hp)
   have HST := Aside.mk (show utfB s = (if (Utf8.decode s pos).1 == 65533 && (Utf8.decode s pos).2 == 1 then false else utfR s m (pos + (Utf8.decode s pos).2)) by rw [← HU.out]; simp [utfR, hp])
   generalize Utf8.decode s pos = d at hnx HW1 HD HST
   obtain ⟨r, wd⟩ := d
   obtain ⟨w2, hw2⟩ : ∃ w2, wr.iterAt W.heap.size s (pos + wd) = w2 := ⟨_, rfl⟩
   have hit2 : w2.heap[W.heap.size]? = some (.stringIter s (pos + wd)) := by rw [← hw2]; exact Lib.iterAt_heap wr W.heap.size s pos _ hit
   have hj2 : J w2 := by rw [← hw2]; exact hJb _ _ HJ.out (Lib.below_iterAt (Below.refl _ _) (k := W.heap.size) (Nat.le_refl _) s _)
   have hpi : (0 : Int) ≤ (pos : Int) := by omega
   have hpj : (pos : Int) ≤ (s.size : Int) := by omega
   rw [hw2] at hnx
   clear hw2 hit
   have HI2 := Aside.mk hit2
   have HJ2 := Aside.mk hj2
   have c0 := hJt _ hj2
   have HC := Aside.mk (show Calls Tryz.prog 128 #[.string (s.extract pos s.size)] w2 fun e w' => e = .returned (.tuple #[.int .i32 r, .int .i64 wd]) ∧ Below w2.heap.size w2 w' by
    have := Shelf.utf8_DecodeRuneInString (s.extract pos s.size) w2 (hJu _ hj2)
    rwa [HD.out] at this)
   clear hit2 hj2
   refine (wpIn_wide (n := 1)).1 ?_
   gi_wp2_with fail
   refine ⟨trivial, callsIn_wide.2 (HC.out.mono ?_)⟩
   rintro e w3 ⟨rfl, hb⟩
   have hw2 : W.heap.size < w2.heap.size := (Array.getElem?_eq_some_iff.1 HI2.out).1
   have HI3 := Aside.mk (hb.block W.heap.size hw2 ▸ HI2.out)
   have HJ3 := Aside.mk (hJb _ _ HJ2.out (hb.mono (Nat.le_of_lt hw2)))
   clear hb c0
   by_cases hbad : r = 65533 ∧ wd = 1
   ·obtain ⟨rfl, rfl⟩ := hbad
    have HF := Aside.mk (show utfB s = false by rw [HST.out]; rfl)
    have c1 := hJe _ HJ3.out
    obtain ⟨v0, c2⟩ := hJE _ HJ3.out
    have c3 := hJf _ HJ3.out
    clear hnx
    gi_wp2
    rw [Exit.noGoto_normal]
    go_end0
    exact ⟨⟨_, rfl⟩, .inr ⟨HF.out, _, w3, HJ3.out, rfl⟩⟩
   ·have HT := Aside.mk (show utfB s = utfR s m (pos + wd) by
     rw [HST.out, if_neg]
     simp only [Bool.and_eq_true, beq_iff_eq]
     exact hbad)
    obtain ⟨fn, tm, asg, bo, hy, hR⟩ := hY pos r w3 HJ3.out
    have HRR := Aside.mk hR
    clear hR hnx
    have hcases : ((r : Int) == 65533) = false ∨ (((r : Int) == 65533) = true ∧ ((wd : Int) == 1) = false) := by
     by_cases h1 : r = 65533
     ·right
      have : wd ≠ 1 := fun e => hbad ⟨h1, e⟩
      constructor
      ·simp [h1]
      ·rw [beq_eq_false_iff_ne]; omega
     ·left; rw [beq_eq_false_iff_ne]; omega
    clear hbad
    rcases hcases with h1 | ⟨h1, h2⟩
    all_goals
     gi_wp2_with fail
     refine HRR.out.mono ?_
     rintro e w4 ⟨rfl, hj4, hk4⟩
     have HJ4 := Aside.mk hj4
     have HI4 := Aside.mk ((hk4 _ (Nat.le_refl _)).trans HI3.out)
     clear hj4 hk4 hy
     gi_wp2
     go_roundg m
    all_goals first
     | (case measure => omega)
     | (case rel => exact ⟨pos + wd, HI4.out, HJ4.out, by have := HW1.out; omega, HT.out.symm⟩)
     | skip
  ·have HE := Aside.mk (show utfB s = true by
    rw [← HU.out]
    cases gk with
    | zero => rfl
    | succ f => simp [utfR, hp])
   have hnx : ∀ ty, (Instr.next (.pointer (some ⟨W.heap.size, 0, none⟩)) true ty).run Tryz.prog wr = _ := fun ty => Lib.run_next_end_at wr W.heap.size s pos ty hit hp
   clear hp
   go_wp2
   rw [Exit.noGoto_normal]
   go_end0
   exact ⟨⟨_, rfl⟩, .inl ⟨HE.out, HJ.out⟩⟩
end Go.Proofs.YtiafggoaedifdaaGreatDoor.Utf
