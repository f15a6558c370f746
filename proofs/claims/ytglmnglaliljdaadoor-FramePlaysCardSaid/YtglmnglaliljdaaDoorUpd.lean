/- A world that turned into a later one: what is no block of a given kind lies as it lay. No conditions. -/
import Derived.Test.YtglmnglaliljdaaDoorGlob
namespace Go.Proofs.YtglmnglaliljdaaDoor
open Go.RowKit
set_option linter.unusedVariables false
/-- what is no block of S, and lay already, lies as it lay -/
structure Upd (S : Nat → Prop) (w w' : World) : Prop where
  os : w'.os = w.os
  tape : w'.tape = w.tape
  output : w'.output = w.output
  size : w.heap.size ≤ w'.heap.size
  block : ∀ k, k < w.heap.size → ¬ S k → w'.heap[k]? = w.heap[k]?
theorem Upd.refl (S : Nat → Prop) (w : World) : Upd S w w := ⟨rfl, rfl, rfl, Nat.le_refl _, fun _ _ _ => rfl⟩
theorem Upd.trans {S : Nat → Prop} {a b c : World} (h : Upd S a b) (k : Upd S b c) : Upd S a c :=
  ⟨k.os.trans h.os, k.tape.trans h.tape, k.output.trans h.output, Nat.le_trans h.size k.size, fun i hi hs => (k.block i (Nat.lt_of_lt_of_le hi h.size) hs).trans (h.block i hi hs)⟩
theorem Upd.mono {S S' : Nat → Prop} {a b : World} (h : Upd S a b) (hs : ∀ k, S k → S' k) : Upd S' a b := ⟨h.os, h.tape, h.output, h.size, fun i hi hn => h.block i hi (fun e => hn (hs i e))⟩
theorem Upd.of_grown {S : Nat → Prop} {a b : World} {f : Nat} (h : a.grownBy b (some f)) (hf : S f) : Upd S a b := ⟨h.os, h.tape, h.output, h.size, fun i hi hn => h.block i hi (fun e => hn (by cases e; exact hf))⟩
theorem Upd.of_below {S : Nat → Prop} {a b : World} (h : Below a.heap.size a b) : Upd S a b := ⟨h.os, h.tape, h.output, h.size, fun i hi _ => h.block i hi⟩
theorem Upd.cell {S : Nat → Prop} {w w' : World} (h : Upd S w w') {a : Addr} {v : Value} (hc : w.cell? a = some v) (hn : ¬ S a.block) : w'.cell? a = some v :=
  (World.cell?_of_block (h.block _ (World.block_lt_of_cell? w _ hc) hn)).trans hc
theorem Upd.blk {S : Nat → Prop} {w w' : World} (h : Upd S w w') {b : Nat} {o : Obj} (hc : w.heap[b]? = some o) (hn : ¬ S b) : w'.heap[b]? = some o :=
  (h.block _ (Array.getElem?_eq_some_iff.1 hc).1 hn).trans hc
/-- the variables' blocks are none of S -/
def GFreeS (p : Nat → Addr) (S : Nat → Prop) : Prop := (∀ n, n ∈ senNums → ¬ S n ∧ ¬ S (p n).block) ∧ ¬ S 7
theorem Globs.upd {w w' : World} {p : Nat → Addr} (h : Globs w p) {S : Nat → Prop} (hf : GFreeS p S) (hg : Upd S w w') : Globs w' p where
  cell := fun n hn => hg.cell (h.cell n hn) (hf.1 n hn).1
  blk := fun n hn => by
    obtain ⟨c, t, hc⟩ := h.blk n hn
    exact ⟨c, t, hg.blk hc (hf.1 n hn).2⟩
  inj := h.inj
  et := hg.cell h.et hf.2
theorem putObj_upd (w : World) (l : Nat) (o : Obj) : Upd (fun k => k = l) w (w.putObj l o) :=
  ⟨rfl, rfl, rfl, by rw [World.putObj_size]; exact Nat.le_refl _, fun k _ hn => World.putObj_heap_other hn⟩
theorem Globs.freeS {w : World} {p : Nat → Addr} (h : Globs w p) {S : Nat → Prop} (hS : ∀ k, S k → w.heap.size ≤ k) : GFreeS p S :=
  ⟨fun n hn => ⟨fun e => by have := World.block_lt_of_cell? w _ (h.cell n hn); have := hS _ e; simp at *; omega, fun e => by obtain ⟨c, t, hc⟩ := h.blk n hn; have := (Array.getElem?_eq_some_iff.1 hc).1; have := hS _ e; omega⟩,
    fun e => by have := World.block_lt_of_cell? w _ h.et; have := hS _ e; simp at *; omega⟩
theorem grown_upd {w a b : World} {f : Nat} {S : Nat → Prop} (h : w.grownBy a (some f)) (u : Upd S a b) (hS : ∀ k, S k → w.heap.size ≤ k ∨ k = f) : w.grownBy b (some f) :=
  ⟨u.os.trans h.os, u.tape.trans h.tape, u.output.trans h.output, Nat.le_trans h.size u.size, fun i hi hr => (u.block i (Nat.lt_of_lt_of_le hi h.size) (fun e => by rcases hS i e with h1 | h1; omega; exact hr (by rw [h1]))).trans (h.block i hi hr)⟩
theorem Upd.to_below {w a b : World} {S : Nat → Prop} (h : Below w.heap.size w a) (u : Upd S a b) (hS : ∀ k, S k → w.heap.size ≤ k) : Below w.heap.size w b :=
  ⟨u.os.trans h.os, u.tape.trans h.tape, u.output.trans h.output, Nat.le_trans h.size u.size, fun i hi => (u.block i (Nat.lt_of_lt_of_le hi h.size) (fun e => by have := hS i e; omega)).trans (h.block i hi)⟩
end Go.Proofs.YtglmnglaliljdaaDoor
