/- What the package-level variables of this seat hold: each sentinel error a pointer of its own, errors.errorType its handle. Conditions: none (definitions, and that they live on in later worlds). -/
import Derived.Test.YtglmnglaliljdaaDoorProg
import Derived.Below
import Derived.KernelRfl
import Derived.RangeFuncRecord
import Derived.WalkKit
import Derived.Deep.QuietTactic
namespace Go.Proofs.YtglmnglaliljdaaDoor
open Go.RowKit
/-- byte i of a text, as a number -/
def bt (s : ByteArray) (i : Int) : Int := if h : i.toNat < s.size then ((s[i.toNat]'h).toNat : Int) else 0
theorem bt_at (s : ByteArray) (i : Int) : ∀ h : i.toNat < s.size, ((s[i.toNat]'h).toNat : Int) = bt s i := fun h => by simp [bt, h]
theorem bt_range (s : ByteArray) (i : Int) : 0 ≤ bt s i ∧ bt s i ≤ 255 := by
  unfold bt
  split
  · rename_i h
    have := (s[i.toNat]'h).toNat_lt
    omega
  · omega
/-- A fact that the walk's simp doesn't look into. -/
structure Aside (p : Prop) : Prop where mk :: (out : p)
theorem below_then {w w1 w2 : World} (h : Below w.heap.size w w1) (k : Below w1.heap.size w1 w2) : Below w.heap.size w w2 := h.trans (k.mono h.size)
/-- the sentinels' numbers -/
def senNums : List Nat := [0, 1, 2, 3, 4, 5, 6]
structure Globs (w : World) (p : Nat → Addr) : Prop where
  cell : ∀ g, g ∈ senNums → w.cell? ⟨g, 0, none⟩ = some (.iface 120 (.pointer (some (p g))))
  blk : ∀ g, g ∈ senNums → ∃ c t, w.heap[(p g).block]? = some (.cells c t (0, 0))
  inj : ∀ g h, g ∈ senNums → h ∈ senNums → g ≠ h → p g ≠ p h
  et : w.cell? ⟨7, 0, none⟩ = some (.iface 99 (.agg #[.pointer (some ⟨8, 49, none⟩)]))
theorem Globs.below {w w' : World} {p : Nat → Addr} (h : Globs w p) (hb : Below w.heap.size w w') : Globs w' p where
  cell := fun g hg => (hb.cell (World.block_lt_of_cell? w _ (h.cell g hg))).trans (h.cell g hg)
  blk := fun g hg => by
    obtain ⟨c, t, hc⟩ := h.blk g hg
    exact ⟨c, t, (hb.block _ (Array.getElem?_eq_some_iff.1 hc).1).trans hc⟩
  inj := h.inj
  et := (hb.cell (World.block_lt_of_cell? w _ h.et)).trans h.et
/-- block g is none of those that the variables need -/
def GFree (p : Nat → Addr) (g : Nat) : Prop := (∀ n, n ∈ senNums → n ≠ g ∧ (p n).block ≠ g) ∧ 7 ≠ g
theorem Globs.free {w : World} {p : Nat → Addr} (h : Globs w p) {g : Nat} (hg : w.heap.size ≤ g) : GFree p g :=
  ⟨fun n hn => ⟨by have := World.block_lt_of_cell? w _ (h.cell n hn); simp at this; omega, by obtain ⟨c, t, hc⟩ := h.blk n hn; have := (Array.getElem?_eq_some_iff.1 hc).1; omega⟩,
    by have := World.block_lt_of_cell? w _ h.et; simp at this; omega⟩
theorem cell_grown {w w' : World} {a : Addr} {v : Value} {row : Option Nat} (h : w.cell? a = some v) (hg : w.grownBy w' row) (hn : some a.block ≠ row) : w'.cell? a = some v :=
  (World.cell?_of_block (hg.block _ (World.block_lt_of_cell? w _ h) hn)).trans h
theorem blk_grown {w w' : World} {b : Nat} {o : Obj} {row : Option Nat} (h : w.heap[b]? = some o) (hg : w.grownBy w' row) (hn : some b ≠ row) : w'.heap[b]? = some o :=
  (hg.block _ (Array.getElem?_eq_some_iff.1 h).1 hn).trans h
theorem Globs.grown {w w' : World} {p : Nat → Addr} (h : Globs w p) {g : Nat} (hf : GFree p g) (hg : w.grownBy w' (some g)) : Globs w' p where
  cell := fun n hn => cell_grown (h.cell n hn) hg (by have := (hf.1 n hn).1; simpa using this)
  blk := fun n hn => by
    obtain ⟨c, t, hc⟩ := h.blk n hn
    exact ⟨c, t, blk_grown hc hg (by have := (hf.1 n hn).2; simpa using this)⟩
  inj := h.inj
  et := cell_grown h.et hg (by have := hf.2; simpa using this)
theorem grown_refl (w : World) (row : Option Nat) : w.grownBy w row := World.grownBy.refl w row
theorem grown_below {w w' w2 : World} {row : Option Nat} (h : w.grownBy w' row) (hb : Below w'.heap.size w' w2) : w.grownBy w2 row :=
  ⟨hb.os.trans h.os, hb.tape.trans h.tape, hb.output.trans h.output, Nat.le_trans h.size hb.size, fun i hi hr => (hb.block i (Nat.lt_of_lt_of_le hi h.size)).trans (h.block i hi hr)⟩
theorem below_grown {w w' w2 : World} {g : Nat} (h : Below w.heap.size w w') (hb : w'.grownBy w2 (some g)) (hg : w.heap.size ≤ g) : Below w.heap.size w w2 :=
  h.grown hb h.size (by intro k hk; cases hk; exact hg)
theorem below_drew (w : World) : Below w.heap.size w w.drew := (Below.refl _ _).drew
theorem below_new (w : World) (o : Obj) : Below w.heap.size w (w.alloc o) := (Below.refl _ _).alloc (Nat.le_refl _) _
theorem below_new_drew (w : World) (o : Obj) : Below w.heap.size w (w.alloc o).drew := ((Below.refl _ _).alloc (Nat.le_refl _) _).drew
theorem cell_new (w : World) (cs : Array Value) (t : TypeId) (fr : Nat × Nat) (j : Nat) {v : Value} (h : cs[j]? = some v) : (w.alloc (.cells cs t fr)).cell? ⟨w.heap.size, j, none⟩ = some v := by
  have hh : (w.alloc (.cells cs t fr)).heap[w.heap.size]? = some (.cells cs t fr) := by show (w.heap.push _)[w.heap.size]? = _; simp
  simp only [World.cell?, hh]; simpa using h
theorem cell_below {w w' : World} {a : Addr} {v : Value} (h : w.cell? a = some v) (hb : Below w.heap.size w w') : w'.cell? a = some v :=
  (hb.cell (World.block_lt_of_cell? w _ h)).trans h
theorem blk_below {w w' : World} {b : Nat} {o : Obj} (h : w.heap[b]? = some o) (hb : Below w.heap.size w w') : w'.heap[b]? = some o :=
  (hb.block _ (Array.getElem?_eq_some_iff.1 h).1).trans h
theorem frz {w : World} {g : Nat} {cs : Array Value} {t : TypeId} (h : w.heap[g]? = some (.cells cs t (0, 0))) (j : Nat) : w.frozen? ⟨g, j, none⟩ = false := by
  simp only [World.frozen?, h]
  simp
theorem cel {w : World} {g : Nat} {cs : Array Value} {t : TypeId} {fr : Nat × Nat} (h : w.heap[g]? = some (.cells cs t fr)) (j : Nat) {v : Value} (hv : cs[j]? = some v) : w.cell? ⟨g, j, none⟩ = some v := by
  simp only [World.cell?, h]
  simpa using hv
theorem set_blk {w : World} {g : Nat} {cs : Array Value} {t : TypeId} {fr : Nat × Nat} (h : w.heap[g]? = some (.cells cs t fr)) (j : Nat) (v : Value) : (w.setCell ⟨g, j, none⟩ v).heap[g]? = some (.cells (cs.setIfInBounds j v) t fr) := by
  simp only [World.setCell, Array.getElem?_modify, h]
  simp
theorem set_grown (w : World) (g j : Nat) (v : Value) : w.grownBy (w.setCell ⟨g, j, none⟩ v) (some g) :=
  ⟨rfl, rfl, rfl, by simp [World.setCell], fun i _ hr => Below.heap_setCell w ⟨g, j, none⟩ v i (by simpa using hr)⟩
theorem grown_trans {w w1 w2 : World} {row : Option Nat} (h : w.grownBy w1 row) (k : w1.grownBy w2 row) : w.grownBy w2 row :=
  ⟨k.os.trans h.os, k.tape.trans h.tape, k.output.trans h.output, Nat.le_trans h.size k.size, fun i hi hr => (k.block i (Nat.lt_of_lt_of_le hi h.size) hr).trans (h.block i hi hr)⟩
theorem grown_drew {w w1 : World} {row : Option Nat} (h : w.grownBy w1 row) : w.grownBy w1.drew row := ⟨h.os, h.tape, h.output, h.size, h.block⟩
theorem grown_of_below {w w1 : World} (h : Below w.heap.size w w1) (row : Option Nat) : w.grownBy w1 row := ⟨h.os, h.tape, h.output, h.size, fun i hi _ => h.block i hi⟩
theorem below_drewN (w : World) (n : Nat) : Below w.heap.size w (w.drewN n) := ⟨rfl, rfl, rfl, Nat.le_refl _, fun _ _ => rfl⟩
end Go.Proofs.YtglmnglaliljdaaDoor
