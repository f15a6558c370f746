/- Several texts, one behind the other. What the package-level variables of this seat hold: each sentinel error a pointer of its own, errors.errorType its handle. Conditions: none (definitions, and that they live on in later worlds). A world that turned into a later one: what is no block of a given kind lies as it lay. No conditions. Values without memory: what a text computes with, how such a value lies in a world, that it lies so in later worlds. Of whatever program. No conditions. The walk without memory: states, what each operation of a text does to one, what a piece of code does. Definitions alone; whatever program. -/
import Derived.Test.YtjmpkbmgcbalkaaGreatDoorProg
import Derived.Below
import Derived.KernelRfl
import Derived.RangeFuncRecord
import Derived.WalkKit
import Derived.Deep.QuietTactic
import Derived.Laws.AppendOwn
import Derived.Maps.AppendAt
import Derived.Orders
/- What the package-level variables of this seat hold: each sentinel error a pointer of its own, errors.errorType its handle. Conditions: none (definitions, and that they live on in later worlds). -/
namespace Go.Proofs.YtjmpkbmgcbalkaaGreatDoor
open Go.RowKit
/-- byte i of a text, as a number -/
def bt (s : ByteArray) (i : Int) : Int := if h : i.toNat < s.size then ((s[i.toNat]'h).toNat : Int) else 0
theorem bt_at (s : ByteArray) (i : Int) : ∀ h : i.toNat < s.size, ((s[i.toNat]'h).toNat : Int) = bt s i := fun h => by simp [bt, h]
theorem bt_range (s : ByteArray) (i : Int) : 0 ≤ bt s i ∧ bt s i ≤ 255 := by
  unfold bt
  split
  · rename_i h
    have := (s[i.toNat]'h).toNat_lt
    omega
  · omega
/-- A fact that the walk's simp doesn't look into. -/
structure Aside (p : Prop) : Prop where mk :: (out : p)
theorem below_then {w w1 w2 : World} (h : Below w.heap.size w w1) (k : Below w1.heap.size w1 w2) : Below w.heap.size w w2 := h.trans (k.mono h.size)
/-- the sentinels' numbers -/
def senNums : List Nat := [0, 3, 6]
structure Globs (w : World) (p : Nat → Addr) : Prop where
  cell : ∀ g, g ∈ senNums → w.cell? ⟨g, 0, none⟩ = some (.iface 189 (.pointer (some (p g))))
  blk : ∀ g, g ∈ senNums → ∃ c t, w.heap[(p g).block]? = some (.cells c t (0, 0))
  inj : ∀ g h, g ∈ senNums → h ∈ senNums → g ≠ h → p g ≠ p h
  et : w.cell? ⟨1, 0, none⟩ = some (.iface 126 (.agg #[.pointer (some ⟨8, 49, none⟩)]))
theorem Globs.below {w w' : World} {p : Nat → Addr} (h : Globs w p) (hb : Below w.heap.size w w') : Globs w' p where
  cell := fun g hg => (hb.cell (World.block_lt_of_cell? w _ (h.cell g hg))).trans (h.cell g hg)
  blk := fun g hg => by
    obtain ⟨c, t, hc⟩ := h.blk g hg
    exact ⟨c, t, (hb.block _ (Array.getElem?_eq_some_iff.1 hc).1).trans hc⟩
  inj := h.inj
  et := (hb.cell (World.block_lt_of_cell? w _ h.et)).trans h.et
/-- block g is none of those that the variables need -/
def GFree (p : Nat → Addr) (g : Nat) : Prop := (∀ n, n ∈ senNums → n ≠ g ∧ (p n).block ≠ g) ∧ 1 ≠ g
theorem Globs.free {w : World} {p : Nat → Addr} (h : Globs w p) {g : Nat} (hg : w.heap.size ≤ g) : GFree p g :=
  ⟨fun n hn => ⟨by have := World.block_lt_of_cell? w _ (h.cell n hn); simp at this; omega, by obtain ⟨c, t, hc⟩ := h.blk n hn; have := (Array.getElem?_eq_some_iff.1 hc).1; omega⟩,
    by have := World.block_lt_of_cell? w _ h.et; simp at this; omega⟩
theorem cell_grown {w w' : World} {a : Addr} {v : Value} {row : Option Nat} (h : w.cell? a = some v) (hg : w.grownBy w' row) (hn : some a.block ≠ row) : w'.cell? a = some v :=
  (World.cell?_of_block (hg.block _ (World.block_lt_of_cell? w _ h) hn)).trans h
theorem blk_grown {w w' : World} {b : Nat} {o : Obj} {row : Option Nat} (h : w.heap[b]? = some o) (hg : w.grownBy w' row) (hn : some b ≠ row) : w'.heap[b]? = some o :=
  (hg.block _ (Array.getElem?_eq_some_iff.1 h).1 hn).trans h
theorem Globs.grown {w w' : World} {p : Nat → Addr} (h : Globs w p) {g : Nat} (hf : GFree p g) (hg : w.grownBy w' (some g)) : Globs w' p where
  cell := fun n hn => cell_grown (h.cell n hn) hg (by have := (hf.1 n hn).1; simpa using this)
  blk := fun n hn => by
    obtain ⟨c, t, hc⟩ := h.blk n hn
    exact ⟨c, t, blk_grown hc hg (by have := (hf.1 n hn).2; simpa using this)⟩
  inj := h.inj
  et := cell_grown h.et hg (by have := hf.2; simpa using this)
theorem grown_refl (w : World) (row : Option Nat) : w.grownBy w row := World.grownBy.refl w row
theorem grown_below {w w' w2 : World} {row : Option Nat} (h : w.grownBy w' row) (hb : Below w'.heap.size w' w2) : w.grownBy w2 row :=
  ⟨hb.os.trans h.os, hb.tape.trans h.tape, hb.output.trans h.output, Nat.le_trans h.size hb.size, fun i hi hr => (hb.block i (Nat.lt_of_lt_of_le hi h.size)).trans (h.block i hi hr)⟩
theorem below_grown {w w' w2 : World} {g : Nat} (h : Below w.heap.size w w') (hb : w'.grownBy w2 (some g)) (hg : w.heap.size ≤ g) : Below w.heap.size w w2 :=
  h.grown hb h.size (by intro k hk; cases hk; exact hg)
theorem below_drew (w : World) : Below w.heap.size w w.drew := (Below.refl _ _).drew
theorem below_new (w : World) (o : Obj) : Below w.heap.size w (w.alloc o) := (Below.refl _ _).alloc (Nat.le_refl _) _
theorem below_new_drew (w : World) (o : Obj) : Below w.heap.size w (w.alloc o).drew := ((Below.refl _ _).alloc (Nat.le_refl _) _).drew
theorem cell_new (w : World) (cs : Array Value) (t : TypeId) (fr : Nat × Nat) (j : Nat) {v : Value} (h : cs[j]? = some v) : (w.alloc (.cells cs t fr)).cell? ⟨w.heap.size, j, none⟩ = some v := by
  have hh : (w.alloc (.cells cs t fr)).heap[w.heap.size]? = some (.cells cs t fr) := by show (w.heap.push _)[w.heap.size]? = _; simp
  simp only [World.cell?, hh]; simpa using h
theorem cell_below {w w' : World} {a : Addr} {v : Value} (h : w.cell? a = some v) (hb : Below w.heap.size w w') : w'.cell? a = some v :=
  (hb.cell (World.block_lt_of_cell? w _ h)).trans h
theorem blk_below {w w' : World} {b : Nat} {o : Obj} (h : w.heap[b]? = some o) (hb : Below w.heap.size w w') : w'.heap[b]? = some o :=
  (hb.block _ (Array.getElem?_eq_some_iff.1 h).1).trans h
theorem frz {w : World} {g : Nat} {cs : Array Value} {t : TypeId} (h : w.heap[g]? = some (.cells cs t (0, 0))) (j : Nat) : w.frozen? ⟨g, j, none⟩ = false := by
  simp only [World.frozen?, h]
  simp
theorem cel {w : World} {g : Nat} {cs : Array Value} {t : TypeId} {fr : Nat × Nat} (h : w.heap[g]? = some (.cells cs t fr)) (j : Nat) {v : Value} (hv : cs[j]? = some v) : w.cell? ⟨g, j, none⟩ = some v := by
  simp only [World.cell?, h]
  simpa using hv
theorem set_blk {w : World} {g : Nat} {cs : Array Value} {t : TypeId} {fr : Nat × Nat} (h : w.heap[g]? = some (.cells cs t fr)) (j : Nat) (v : Value) : (w.setCell ⟨g, j, none⟩ v).heap[g]? = some (.cells (cs.setIfInBounds j v) t fr) := by
  simp only [World.setCell, Array.getElem?_modify, h]
  simp
theorem set_grown (w : World) (g j : Nat) (v : Value) : w.grownBy (w.setCell ⟨g, j, none⟩ v) (some g) :=
  ⟨rfl, rfl, rfl, by simp [World.setCell], fun i _ hr => Below.heap_setCell w ⟨g, j, none⟩ v i (by simpa using hr)⟩
theorem grown_trans {w w1 w2 : World} {row : Option Nat} (h : w.grownBy w1 row) (k : w1.grownBy w2 row) : w.grownBy w2 row :=
  ⟨k.os.trans h.os, k.tape.trans h.tape, k.output.trans h.output, Nat.le_trans h.size k.size, fun i hi hr => (k.block i (Nat.lt_of_lt_of_le hi h.size) hr).trans (h.block i hi hr)⟩
theorem grown_drew {w w1 : World} {row : Option Nat} (h : w.grownBy w1 row) : w.grownBy w1.drew row := ⟨h.os, h.tape, h.output, h.size, h.block⟩
theorem grown_of_below {w w1 : World} (h : Below w.heap.size w w1) (row : Option Nat) : w.grownBy w1 row := ⟨h.os, h.tape, h.output, h.size, fun i hi _ => h.block i hi⟩
theorem below_drewN (w : World) (n : Nat) : Below w.heap.size w (w.drewN n) := ⟨rfl, rfl, rfl, Nat.le_refl _, fun _ _ => rfl⟩
end Go.Proofs.YtjmpkbmgcbalkaaGreatDoor
/- A world that turned into a later one: what is no block of a given kind lies as it lay. No conditions. -/
namespace Go.Proofs.YtjmpkbmgcbalkaaGreatDoor
open Go.RowKit
set_option linter.unusedVariables false
/-- what is no block of S, and lay already, lies as it lay -/
structure Upd (S : Nat → Prop) (w w' : World) : Prop where
  os : w'.os = w.os
  tape : w'.tape = w.tape
  output : w'.output = w.output
  size : w.heap.size ≤ w'.heap.size
  block : ∀ k, k < w.heap.size → ¬ S k → w'.heap[k]? = w.heap[k]?
theorem Upd.refl (S : Nat → Prop) (w : World) : Upd S w w := ⟨rfl, rfl, rfl, Nat.le_refl _, fun _ _ _ => rfl⟩
theorem Upd.trans {S : Nat → Prop} {a b c : World} (h : Upd S a b) (k : Upd S b c) : Upd S a c :=
  ⟨k.os.trans h.os, k.tape.trans h.tape, k.output.trans h.output, Nat.le_trans h.size k.size, fun i hi hs => (k.block i (Nat.lt_of_lt_of_le hi h.size) hs).trans (h.block i hi hs)⟩
theorem Upd.mono {S S' : Nat → Prop} {a b : World} (h : Upd S a b) (hs : ∀ k, S k → S' k) : Upd S' a b := ⟨h.os, h.tape, h.output, h.size, fun i hi hn => h.block i hi (fun e => hn (hs i e))⟩
theorem Upd.of_grown {S : Nat → Prop} {a b : World} {f : Nat} (h : a.grownBy b (some f)) (hf : S f) : Upd S a b := ⟨h.os, h.tape, h.output, h.size, fun i hi hn => h.block i hi (fun e => hn (by cases e; exact hf))⟩
theorem Upd.of_below {S : Nat → Prop} {a b : World} (h : Below a.heap.size a b) : Upd S a b := ⟨h.os, h.tape, h.output, h.size, fun i hi _ => h.block i hi⟩
theorem Upd.cell {S : Nat → Prop} {w w' : World} (h : Upd S w w') {a : Addr} {v : Value} (hc : w.cell? a = some v) (hn : ¬ S a.block) : w'.cell? a = some v :=
  (World.cell?_of_block (h.block _ (World.block_lt_of_cell? w _ hc) hn)).trans hc
theorem Upd.blk {S : Nat → Prop} {w w' : World} (h : Upd S w w') {b : Nat} {o : Obj} (hc : w.heap[b]? = some o) (hn : ¬ S b) : w'.heap[b]? = some o :=
  (h.block _ (Array.getElem?_eq_some_iff.1 hc).1 hn).trans hc
/-- the variables' blocks are none of S -/
def GFreeS (p : Nat → Addr) (S : Nat → Prop) : Prop := (∀ n, n ∈ senNums → ¬ S n ∧ ¬ S (p n).block) ∧ ¬ S 1
theorem Globs.upd {w w' : World} {p : Nat → Addr} (h : Globs w p) {S : Nat → Prop} (hf : GFreeS p S) (hg : Upd S w w') : Globs w' p where
  cell := fun n hn => hg.cell (h.cell n hn) (hf.1 n hn).1
  blk := fun n hn => by
    obtain ⟨c, t, hc⟩ := h.blk n hn
    exact ⟨c, t, hg.blk hc (hf.1 n hn).2⟩
  inj := h.inj
  et := hg.cell h.et hf.2
theorem putObj_upd (w : World) (l : Nat) (o : Obj) : Upd (fun k => k = l) w (w.putObj l o) :=
  ⟨rfl, rfl, rfl, by rw [World.putObj_size]; exact Nat.le_refl _, fun k _ hn => World.putObj_heap_other hn⟩
theorem Globs.freeS {w : World} {p : Nat → Addr} (h : Globs w p) {S : Nat → Prop} (hS : ∀ k, S k → w.heap.size ≤ k) : GFreeS p S :=
  ⟨fun n hn => ⟨fun e => by have := World.block_lt_of_cell? w _ (h.cell n hn); have := hS _ e; simp at *; omega, fun e => by obtain ⟨c, t, hc⟩ := h.blk n hn; have := (Array.getElem?_eq_some_iff.1 hc).1; have := hS _ e; omega⟩,
    fun e => by have := World.block_lt_of_cell? w _ h.et; have := hS _ e; simp at *; omega⟩
theorem grown_upd {w a b : World} {f : Nat} {S : Nat → Prop} (h : w.grownBy a (some f)) (u : Upd S a b) (hS : ∀ k, S k → w.heap.size ≤ k ∨ k = f) : w.grownBy b (some f) :=
  ⟨u.os.trans h.os, u.tape.trans h.tape, u.output.trans h.output, Nat.le_trans h.size u.size, fun i hi hr => (u.block i (Nat.lt_of_lt_of_le hi h.size) (fun e => by rcases hS i e with h1 | h1; omega; exact hr (by rw [h1]))).trans (h.block i hi hr)⟩
theorem Upd.to_below {w a b : World} {S : Nat → Prop} (h : Below w.heap.size w a) (u : Upd S a b) (hS : ∀ k, S k → w.heap.size ≤ k) : Below w.heap.size w b :=
  ⟨u.os.trans h.os, u.tape.trans h.tape, u.output.trans h.output, Nat.le_trans h.size u.size, fun i hi => (u.block i (Nat.lt_of_lt_of_le hi h.size) (fun e => by have := hS i e; omega)).trans (h.block i hi)⟩
end Go.Proofs.YtjmpkbmgcbalkaaGreatDoor
/- Values without memory: what a text computes with, how such a value lies in a world, that it lies so in later worlds. Of whatever program. No conditions. -/
namespace Go.Proofs.YtjmpkbmgcbalkaaGreatDoor
open Go.RowKit
set_option linter.unusedVariables false
/-- a value: a slice has elements of cells -/
inductive V where
  | int (k : IntKind) (n : Int)
  | bool (b : Bool)
  | str (s : ByteArray)
  | agg (l : List V)
  | sl (xs : List (List V))
  | nils
  | nili
  | ifc (t : TypeId) (x : V)
  | raw (v : Value)
abbrev Lv := Nat → Nat → Prop
def V.one : V → Bool
  | .agg _ => false
  | .raw v => v.oneCell'
  | _ => true
def V.cells : V → List V
  | .agg l => l
  | x => [x]
mutual
def Rep (w : World) (L : Lv) : V → Value → Prop
  | .int k n, v => v = .int k n
  | .bool b, v => v = .bool b
  | .str s, v => v = .string s
  | .nils, v => v = .slice none 0 0
  | .nili, v => v = .nilIface
  | .raw u, v => v = u
  | .ifc t x, v => ∃ u, v = .iface t u ∧ Rep w L x u
  | .agg l, v => ∃ cs, v = .agg cs ∧ RepL w L l cs.toList
  | .sl xs, v => ∃ A c, v = .slice A xs.length c ∧ xs.length ≤ c ∧ (xs ≠ [] → ∃ b o e, A = some ⟨b, o, none⟩ ∧ RepE w L b e o xs)
def RepL (w : World) (L : Lv) : List V → List Value → Prop
  | [], cs => cs = []
  | x :: xs, cs => ∃ u us, cs = u :: us ∧ x.one = true ∧ Rep w L x u ∧ RepL w L xs us
def RepC (w : World) (L : Lv) (b : Nat) : Nat → List V → Prop
  | _, [] => True
  | o, x :: xs => (∃ u, L b o ∧ w.cell? ⟨b, o, none⟩ = some u ∧ x.one = true ∧ Rep w L x u) ∧ RepC w L b (o + 1) xs
def RepE (w : World) (L : Lv) (b e : Nat) : Nat → List (List V) → Prop
  | _, [] => True
  | o, c :: xs => c.length = e ∧ RepC w L b o c ∧ RepE w L b e (o + e) xs
end
/-- the cells that may be seen read alike -/
def Same (L : Lv) (w : World) (L' : Lv) (w' : World) : Prop := ∀ b o u, L b o → w.cell? ⟨b, o, none⟩ = some u → L' b o ∧ w'.cell? ⟨b, o, none⟩ = some u
mutual
theorem Rep.mono {w w' : World} {L L' : Lv} (h : Same L w L' w') : ∀ (x : V) (v : Value), Rep w L x v → Rep w' L' x v
  | .int _ _, _, r => r
  | .bool _, _, r => r
  | .str _, _, r => r
  | .nils, _, r => r
  | .nili, _, r => r
  | .raw _, _, r => r
  | .ifc _ x, _, ⟨u, e, r⟩ => ⟨u, e, Rep.mono h x u r⟩
  | .agg l, _, ⟨cs, e, r⟩ => ⟨cs, e, RepL.mono h l _ r⟩
  | .sl xs, _, ⟨A, c, e, hl, hx⟩ => ⟨A, c, e, hl, fun hn => let ⟨b, o, k, ha, r⟩ := hx hn; ⟨b, o, k, ha, RepE.mono h b k xs o r⟩⟩
theorem RepL.mono {w w' : World} {L L' : Lv} (h : Same L w L' w') : ∀ (l : List V) (cs : List Value), RepL w L l cs → RepL w' L' l cs
  | [], _, r => r
  | x :: xs, _, ⟨u, us, e, h1, r, rs⟩ => ⟨u, us, e, h1, Rep.mono h x u r, RepL.mono h xs us rs⟩
theorem RepC.mono {w w' : World} {L L' : Lv} (h : Same L w L' w') (b : Nat) : ∀ (l : List V) (o : Nat), RepC w L b o l → RepC w' L' b o l
  | [], _, _ => trivial
  | x :: xs, o, ⟨⟨u, hL, hc, h1, r⟩, rs⟩ => ⟨⟨u, (h b o u hL hc).1, (h b o u hL hc).2, h1, Rep.mono h x u r⟩, RepC.mono h b xs (o + 1) rs⟩
theorem RepE.mono {w w' : World} {L L' : Lv} (h : Same L w L' w') (b e : Nat) : ∀ (xs : List (List V)) (o : Nat), RepE w L b e o xs → RepE w' L' b e o xs
  | [], _, _ => trivial
  | c :: xs, o, ⟨hl, rc, rs⟩ => ⟨hl, RepC.mono h b c o rc, RepE.mono h b e xs (o + e) rs⟩
end
theorem Same.refl (L : Lv) (w : World) : Same L w L w := fun _ _ _ h k => ⟨h, k⟩
theorem Same.trans {L L1 L2 : Lv} {w w1 w2 : World} (h : Same L w L1 w1) (k : Same L1 w1 L2 w2) : Same L w L2 w2 := fun b o u h1 h2 => let ⟨a, c⟩ := h b o u h1 h2; k b o u a c
theorem Same.of_below {L : Lv} {w w' : World} (h : Below w.heap.size w w') : Same L w L w' := fun _ _ _ h1 h2 => ⟨h1, cell_below h2 h⟩
theorem RepL.length {w : World} {L : Lv} : ∀ {l : List V} {cs : List Value}, RepL w L l cs → cs.length = l.length
  | [], _, r => by obtain rfl : _ = [] := r; rfl
  | x :: xs, _, ⟨u, us, e, _, _, rs⟩ => by rw [e, List.length_cons, List.length_cons, rs.length]
theorem RepL.get {w : World} {L : Lv} : ∀ {l : List V} {cs : List Value} {i : Nat} {x : V}, RepL w L l cs → l[i]? = some x → ∃ u, cs[i]? = some u ∧ x.one = true ∧ Rep w L x u
  | [], _, _, _, _, h => by simp at h
  | y :: xs, _, 0, x, ⟨u, us, e, h1, r, _⟩, h => by simp at h; subst h; exact ⟨u, by rw [e]; rfl, h1, r⟩
  | y :: xs, _, i + 1, x, ⟨u, us, e, _, _, rs⟩, h => by
    obtain ⟨z, hz, h1, r⟩ := rs.get (i := i) (by simpa using h)
    exact ⟨z, by rw [e]; simpa using hz, h1, r⟩
theorem RepL.append {w : World} {L : Lv} : ∀ {l m : List V} {cs ds : List Value}, RepL w L l cs → RepL w L m ds → RepL w L (l ++ m) (cs ++ ds)
  | [], m, _, ds, h, k => by rw [show _ = [] from h]; exact k
  | x :: xs, m, _, ds, ⟨u, us, e, h1, r, rs⟩, k => ⟨u, us ++ ds, by rw [e]; rfl, h1, r, rs.append k⟩
theorem RepL.drop {w : World} {L : Lv} : ∀ {l : List V} {cs : List Value} (n : Nat), RepL w L l cs → RepL w L (l.drop n) (cs.drop n)
  | _, _, 0, h => by simpa using h
  | [], _, n + 1, h => by rw [show _ = [] from h]; simp [RepL]
  | x :: xs, _, n + 1, ⟨u, us, e, _, _, rs⟩ => by rw [e]; simpa using rs.drop n
theorem RepL.take {w : World} {L : Lv} : ∀ {l : List V} {cs : List Value} (n : Nat), RepL w L l cs → RepL w L (l.take n) (cs.take n)
  | _, _, 0, _ => by simp [RepL]
  | [], _, n + 1, h => by rw [show _ = [] from h]; simp [RepL]
  | x :: xs, _, n + 1, ⟨u, us, e, h1, r, rs⟩ => by rw [e]; exact ⟨u, us.take n, rfl, h1, r, rs.take n⟩
theorem RepL.ones {w : World} {L : Lv} : ∀ {l : List V} {cs : List Value}, RepL w L l cs → ∀ x ∈ l, x.one = true
  | [], _, _, x, hx => by cases hx
  | y :: xs, _, ⟨u, us, _, h1, _, rs⟩, x, hx => by
    rcases List.mem_cons.1 hx with rfl | hx
    · exact h1
    · exact rs.ones x hx
theorem RepC.get {w : World} {L : Lv} {b : Nat} : ∀ {l : List V} {o i : Nat} {x : V}, RepC w L b o l → l[i]? = some x → ∃ u, L b (o + i) ∧ w.cell? ⟨b, o + i, none⟩ = some u ∧ x.one = true ∧ Rep w L x u
  | [], _, _, _, _, h => by simp at h
  | y :: xs, o, 0, x, ⟨h0, _⟩, h => by simp at h; subst h; exact h0
  | y :: xs, o, i + 1, x, ⟨_, hs⟩, h => by
    have := hs.get (i := i) (by simpa using h)
    rwa [show o + 1 + i = o + (i + 1) by omega] at this
theorem RepC.of_get {w : World} {L : Lv} {b : Nat} : ∀ (l : List V) (o : Nat), (∀ i x, l[i]? = some x → ∃ u, L b (o + i) ∧ w.cell? ⟨b, o + i, none⟩ = some u ∧ x.one = true ∧ Rep w L x u) → RepC w L b o l
  | [], _, _ => trivial
  | y :: xs, o, h => ⟨h 0 y rfl, RepC.of_get xs (o + 1) fun i x hx => by have := h (i + 1) x (by simpa using hx); rwa [show o + 1 + i = o + (i + 1) by omega]⟩
theorem RepC.drop {w : World} {L : Lv} {b o : Nat} {l : List V} (h : RepC w L b o l) (n : Nat) : RepC w L b (o + n) (l.drop n) :=
  RepC.of_get _ _ fun i x hx => by
    rw [List.getElem?_drop] at hx
    have := h.get hx
    rwa [show o + n + i = o + (n + i) by omega]
theorem RepC.take {w : World} {L : Lv} {b o : Nat} {l : List V} (h : RepC w L b o l) (n : Nat) : RepC w L b o (l.take n) :=
  RepC.of_get _ _ fun i x hx => by
    rw [List.getElem?_take] at hx
    split at hx
    · exact h.get hx
    · cases hx
/-- the cells' values -/
theorem RepC.vals {w : World} {L : Lv} {b : Nat} : ∀ {l : List V} {o : Nat}, RepC w L b o l → ∃ cs : List Value, cs.length = l.length ∧ RepL w L l cs ∧ ∀ i u, cs[i]? = some u → w.cell? ⟨b, o + i, none⟩ = some u
  | [], _, _ => ⟨[], rfl, rfl, fun i u h => by simp at h⟩
  | x :: xs, o, ⟨⟨u, _, hc, h1, r⟩, rs⟩ => by
    obtain ⟨cs, hl, hr, hg⟩ := rs.vals
    refine ⟨u :: cs, by simp [hl], ⟨u, cs, rfl, h1, r, hr⟩, fun i z hz => ?_⟩
    cases i with
    | zero => simp at hz; subst hz; exact hc
    | succ i => have := hg i z (by simpa using hz); rwa [show o + 1 + i = o + (i + 1) by omega] at this
theorem RepE.get {w : World} {L : Lv} {b e : Nat} : ∀ {xs : List (List V)} {o i : Nat} {c : List V}, RepE w L b e o xs → xs[i]? = some c → c.length = e ∧ RepC w L b (o + i * e) c
  | [], _, _, _, _, h => by simp at h
  | y :: xs, o, 0, c, ⟨hl, hc, _⟩, h => by simp at h; subst h; exact ⟨hl, by simpa using hc⟩
  | y :: xs, o, i + 1, c, ⟨_, _, hs⟩, h => by
    have := hs.get (i := i) (by simpa using h)
    rwa [show o + e + i * e = o + (i + 1) * e by rw [Nat.add_mul]; omega] at this
theorem RepE.of_get {w : World} {L : Lv} {b e : Nat} : ∀ (xs : List (List V)) (o : Nat), (∀ i c, xs[i]? = some c → c.length = e ∧ RepC w L b (o + i * e) c) → RepE w L b e o xs
  | [], _, _ => trivial
  | y :: xs, o, h => ⟨(h 0 y rfl).1, by simpa using (h 0 y rfl).2, RepE.of_get xs (o + e) fun i c hc => by
      have := h (i + 1) c (by simpa using hc)
      rwa [show o + e + i * e = o + (i + 1) * e by rw [Nat.add_mul]; omega]⟩
theorem RepE.drop {w : World} {L : Lv} {b e o : Nat} {xs : List (List V)} (h : RepE w L b e o xs) (n : Nat) : RepE w L b e (o + n * e) (xs.drop n) :=
  RepE.of_get _ _ fun i c hc => by
    rw [List.getElem?_drop] at hc
    have := h.get hc
    rwa [show o + n * e + i * e = o + (n + i) * e by rw [Nat.add_mul]; omega]
theorem RepE.take {w : World} {L : Lv} {b e o : Nat} {xs : List (List V)} (h : RepE w L b e o xs) (n : Nat) : RepE w L b e o (xs.take n) :=
  RepE.of_get _ _ fun i c hc => by
    rw [List.getElem?_take] at hc
    split at hc
    · exact h.get hc
    · cases hc
theorem RepE.append {w : World} {L : Lv} {b e o : Nat} {xs ys : List (List V)} (h : RepE w L b e o xs) (k : RepE w L b e (o + xs.length * e) ys) : RepE w L b e o (xs ++ ys) :=
  RepE.of_get _ _ fun i c hc => by
    by_cases hi : i < xs.length
    · rw [List.getElem?_append_left hi] at hc; exact h.get hc
    · rw [List.getElem?_append_right (by omega)] at hc
      have := k.get hc
      rwa [show o + xs.length * e + (i - xs.length) * e = o + i * e by rw [Nat.add_assoc, ← Nat.add_mul]; congr 2; omega] at this
theorem RepE.vals {w : World} {L : Lv} {b e : Nat} : ∀ {xs : List (List V)} {o : Nat}, RepE w L b e o xs → ∃ cs : List Value, cs.length = xs.length * e ∧ (∀ i c, xs[i]? = some c → RepL w L c ((cs.drop (i * e)).take e)) ∧ ∀ i u, cs[i]? = some u → w.cell? ⟨b, o + i, none⟩ = some u
  | [], _, _ => ⟨[], by simp, fun i c h => by simp at h, fun i u h => by simp at h⟩
  | x :: xs, o, ⟨hl, hc, hs⟩ => by
    obtain ⟨c1, hl1, hr1, hg1⟩ := hc.vals
    obtain ⟨c2, hl2, hr2, hg2⟩ := hs.vals
    refine ⟨c1 ++ c2, by rw [List.length_append, hl1, hl, hl2, List.length_cons, Nat.add_mul]; omega, fun i c hi => ?_, fun i u hu => ?_⟩
    · cases i with
      | zero =>
        simp at hi; subst hi
        simp only [Nat.zero_mul, List.drop_zero]
        rw [List.take_append_of_le_length (by omega), List.take_of_length_le (by omega)]
        exact hr1
      | succ i =>
        have := hr2 i c (by simpa using hi)
        rw [List.drop_append]
        rw [List.drop_eq_nil_of_le (by rw [hl1, hl, Nat.add_mul]; omega), List.nil_append, show (i + 1) * e - c1.length = i * e by rw [hl1, hl, Nat.add_mul]; omega]
        exact this
    · by_cases hi : i < c1.length
      · rw [List.getElem?_append_left hi] at hu; exact hg1 i u hu
      · rw [List.getElem?_append_right (by omega)] at hu
        have := hg2 _ u hu
        rwa [show o + e + (i - c1.length) = o + i by omega] at this
theorem RepL.one_vals {w : World} {L : Lv} : ∀ {l : List V} {cs : List Value}, RepL w L l cs → ∀ u ∈ cs, u.oneCell' = true
  | [], _, r, u, hu => by rw [show _ = [] from r] at hu; cases hu
  | x :: xs, _, ⟨v, us, e, h1, r, rs⟩, u, hu => by
    rw [e] at hu
    rcases List.mem_cons.1 hu with rfl | hu
    · cases x with
      | agg l => cases h1
      | int k n => rw [show _ = _ from r]; rfl
      | bool k => rw [show _ = _ from r]; rfl
      | str k => rw [show _ = _ from r]; rfl
      | nils => rw [show _ = _ from r]; rfl
      | nili => rw [show _ = _ from r]; rfl
      | raw v => rw [show _ = _ from r]; exact h1
      | ifc t x => obtain ⟨z, rfl, _⟩ := r; rfl
      | sl xs => obtain ⟨A, c, rfl, _⟩ := r; rfl
    · exact rs.one_vals u hu
theorem Rep.one_val {w : World} {L : Lv} {x : V} {v : Value} (h1 : x.one = true) (h : Rep w L x v) : v.oneCell' = true :=
  RepL.one_vals (l := [x]) (cs := [v]) ⟨v, [], rfl, h1, h, rfl⟩ v (by simp)
end Go.Proofs.YtjmpkbmgcbalkaaGreatDoor
/- The walk without memory: states, what each operation of a text does to one, what a piece of code does. Definitions alone; whatever program. -/
namespace Go.Proofs.YtjmpkbmgcbalkaaGreatDoor
open Go.RowKit
set_option linter.unusedVariables false
/-- what a slot holds -/
inductive T where
  | un
  | v (x : V)
  | own (k e : Nat) (xs : List (List V))
  | ptr (i o : Nat)
  | ro (cs : List V)
  | fn (f : FuncId) (caps : List T)
  | tup (l : List T)
def lk {β : Type} (n : Nat) : List (Nat × β) → Option β
  | [] => none
  | p :: r => match Nat.beq n p.1 with
    | true => some p.2
    | false => lk n r
/-- what is asked of the program's types -/
structure Tab where
  fld : List (Nat × List (Nat × Nat × Bool))
  siz : List (Nat × (Nat × Bool))
  elt : List (Nat × Nat)
  zer : List (Nat × List V)
  str : List (Nat × Unit)
  ints : List (Nat × IntKind)
  con : List (Nat × Bool)
  boo : List (Nat × Unit)
  ptrf : List (Nat × Unit)
  eqs : List (Nat × List Bool)
structure St where
  n : Nat
  env : List (Nat × T)
  bs : List (Nat × List T)
  lv : List (Nat × Option Nat)
def tget (env : List (Nat × T)) (t : Nat) : T := match lk t env with
  | some x => x
  | none => .un
def constT : Value → T
  | .int k n => .v (.int k n)
  | .bool b => .v (.bool b)
  | .string s => .v (.str s)
  | .slice none 0 0 => .v .nils
  | .nilIface => .v .nili
  | _ => .un
def St.ev (st : St) : Operand → T
  | .tmp t => tget st.env t
  | .const v => constT v
  | .func f => .fn f []
  | .global _ => .un
def T.toV : T → Option V
  | .v x => some x
  | .own _ _ xs => some (.sl xs)
  | _ => none
def St.put : St → Option Nat → T → St
  | ⟨n, env, bs, lv⟩, d, t => match d with
    | none => ⟨n, env, bs, lv⟩
    | some d => match Nat.blt d n with
      | true => ⟨n, (d, t) :: env, bs, lv⟩
      | false => ⟨n, env, bs, lv⟩
/-! A value, reckoned before it is used. -/
def frc1 (x : V) (k : V → Prop) : Prop := match x with
  | .int q n => k (.int q n)
  | .bool b => k (.bool b)
  | .str s => k (.str s)
  | .agg l => k (.agg l)
  | .sl xs => k (.sl xs)
  | .nils => k .nils
  | .nili => k .nili
  | .ifc t x => k (.ifc t x)
  | .raw v => k (.raw v)
def frcVs : List V → (List V → Prop) → Prop
  | [], k => k []
  | x :: r, k => frc1 x fun x' => frcVs r fun r' => k (x' :: r')
def frcV (x : V) (k : V → Prop) : Prop := match x with
  | .int q n => k (.int q n)
  | .bool b => k (.bool b)
  | .str s => k (.str s)
  | .agg l => frcVs l fun l' => k (.agg l')
  | .sl xs => k (.sl xs)
  | .nils => k .nils
  | .nili => k .nili
  | .ifc t x => k (.ifc t x)
  | .raw v => k (.raw v)
def frcT0 (t : T) (k : T → Prop) : Prop := match t with
  | .un => k .un
  | .v x => k (.v x)
  | .own a b xs => k (.own a b xs)
  | .ptr i o => k (.ptr i o)
  | .ro cs => k (.ro cs)
  | .fn f l => k (.fn f l)
  | .tup l => k (.tup l)
def frcTs : List T → (List T → Prop) → Prop
  | [], k => k []
  | t :: r, k => frcT0 t fun t' => frcTs r fun r' => k (t' :: r')
def frcT (t : T) (k : T → Prop) : Prop := match t with
  | .un => k .un
  | .v x => frcV x fun x' => k (.v x')
  | .own a b xs => k (.own a b xs)
  | .ptr i o => k (.ptr i o)
  | .ro cs => frcVs cs fun cs' => k (.ro cs')
  | .fn f l => frcTs l fun l' => k (.fn f l')
  | .tup l => k (.tup l)
def frcSt (st : St) (k : St → Prop) : Prop := match st with
  | ⟨n, env, bs, lv⟩ => k ⟨n, env, bs, lv⟩
def frcE : List (Nat × T) → (List (Nat × T) → Prop) → Prop
  | [], k => k []
  | p :: r, k => frcT0 p.2 fun t => frcE r fun r' => k ((p.1, t) :: r')
def frcB : List (Nat × List T) → (List (Nat × List T) → Prop) → Prop
  | [], k => k []
  | p :: r, k => frcTs p.2 fun l => frcB r fun r' => k ((p.1, l) :: r')
def frcAll (st : St) (k : St → Prop) : Prop := match st with
  | ⟨n, env, bs, lv⟩ => frcE env fun env' => frcB bs fun bs' => k ⟨n, env', bs', lv⟩
theorem frc1_eq (x : V) (k : V → Prop) : frc1 x k = k x := by cases x <;> rfl
theorem frcVs_eq : ∀ (l : List V) (k : List V → Prop), frcVs l k = k l
  | [], _ => rfl
  | x :: r, k => by rw [frcVs, frc1_eq, frcVs_eq r]
theorem frcV_eq (x : V) (k : V → Prop) : frcV x k = k x := by
  cases x with
  | agg l => exact frcVs_eq l (fun l' => k (.agg l'))
  | _ => rfl
theorem frcT0_eq (t : T) (k : T → Prop) : frcT0 t k = k t := by cases t <;> rfl
theorem frcTs_eq : ∀ (l : List T) (k : List T → Prop), frcTs l k = k l
  | [], _ => rfl
  | x :: r, k => by rw [frcTs, frcT0_eq, frcTs_eq r]
theorem frcT_eq (t : T) (k : T → Prop) : frcT t k = k t := by
  cases t with
  | v x => exact frcV_eq x (fun x' => k (.v x'))
  | ro cs => exact frcVs_eq cs (fun l' => k (.ro l'))
  | fn f l => exact frcTs_eq l (fun l' => k (.fn f l'))
  | _ => rfl
theorem frcSt_eq (st : St) (k : St → Prop) : frcSt st k = k st := rfl
theorem frcE_eq : ∀ (l : List (Nat × T)) (k : List (Nat × T) → Prop), frcE l k = k l
  | [], _ => rfl
  | x :: r, k => by rw [frcE, frcT0_eq, frcE_eq r]
theorem frcB_eq : ∀ (l : List (Nat × List T)) (k : List (Nat × List T) → Prop), frcB l k = k l
  | [], _ => rfl
  | x :: r, k => by rw [frcB, frcTs_eq, frcB_eq r]
theorem frcAll_eq (st : St) (k : St → Prop) : frcAll st k = k st := by
  obtain ⟨n, env, bs, lv⟩ := st
  show (frcE env fun env' => frcB bs fun bs' => k ⟨n, env', bs', lv⟩) = _
  rw [frcE_eq, frcB_eq]
mutual
def T.hasP (d : Nat) : T → Bool
  | .ptr i _ => Nat.beq i d
  | .fn _ caps => T.hasPs d caps
  | .tup l => T.hasPs d l
  | _ => false
def T.hasPs (d : Nat) : List T → Bool
  | [] => false
  | t :: r => t.hasP d || T.hasPs d r
end
mutual
def T.hasK (d : Nat) : T → Bool
  | .own k _ _ => Nat.beq k d
  | .fn _ caps => T.hasKs d caps
  | .tup l => T.hasKs d l
  | _ => false
def T.hasKs (d : Nat) : List T → Bool
  | [] => false
  | t :: r => t.hasK d || T.hasKs d r
end
def scrP (d : Nat) (t : T) : T := match t.hasP d with
  | true => .un
  | false => t
def scrK (d : Nat) (t : T) : T := match t with
  | .own k _ xs => match Nat.beq k d with
    | true => .v (.sl xs)
    | false => t
  | t => match t.hasK d with
    | true => .un
    | false => t
def scrEnv (f : T → T) : List (Nat × T) → List (Nat × T)
  | [] => []
  | p :: r => (p.1, f p.2) :: scrEnv f r
def scrBs (f : T → T) : List (Nat × List T) → List (Nat × List T)
  | [] => []
  | p :: r => (p.1, p.2.map f) :: scrBs f r
/-- a new variable, by its slot's name -/
def St.alloc : St → Nat → List T → St
  | ⟨n, env, bs, lv⟩, d, cs => ⟨n, scrEnv (scrP d) env, (d, cs.map (scrP d)) :: scrBs (scrP d) bs, lv⟩
/-- a row of one's own, by its slot's name -/
def St.row : St → Nat → Nat → St
  | ⟨n, env, bs, lv⟩, d, e => ⟨n, scrEnv (scrK d) env, scrBs (scrK d) bs, (d, some e) :: lv⟩
def St.kill : St → Nat → St
  | ⟨n, env, bs, lv⟩, k => ⟨n, scrEnv (scrK k) env, scrBs (scrK k) bs, (k, none) :: lv⟩
def St.bset : St → Nat → List T → St
  | ⟨n, env, bs, lv⟩, i, cs => ⟨n, env, (i, cs) :: bs, lv⟩
def lget (lv : List (Nat × Option Nat)) (k : Nat) : Option Nat := match lk k lv with
  | some (some e) => some e
  | _ => none
def toVs : List T → Option (List V)
  | [] => some []
  | t :: r => match t.toV with
    | some x => match toVs r with
      | some xs => some (x :: xs)
      | none => none
    | none => none
/-- cells of a value that is stored -/
def T.cellsT : T → Option (List T)
  | .v (.agg l) => some (l.map T.v)
  | .v (.raw u) => match u.oneCell' with
    | true => some [.v (.raw u)]
    | false => none
  | .v x => some [.v x]
  | .own k e xs => some [.own k e xs]
  | .ptr i o => some [.ptr i o]
  | .ro cs => some [.ro cs]
  | .fn f caps => some [.fn f caps]
  | _ => none
/-- what may be a part -/
def V.part : V → Bool
  | .raw v => v.oneCell'
  | _ => true
def fillV (fs : List (Nat × Nat × Bool)) (z : List V) : List (Nat × Option V) → Option (List V)
  | [] => some z
  | p :: r => match p.2 with
    | some x => match fs[p.1]? with
      | some q => match Nat.beq x.cells.length q.2.1 with
        | true => match Nat.ble (q.1 + q.2.1) z.length && x.part with
          | true => fillV fs (z.take q.1 ++ x.cells ++ z.drop (q.1 + q.2.1)) r
          | false => none
        | false => none
      | none => none
    | none => none
/-- a literal's elements, in order -/
def elemsV (m : Nat) : Nat → List (Nat × Option V) → Option (List (List V))
  | _, [] => some []
  | i, p :: r => match Nat.beq p.1 i with
    | true => match p.2 with
      | some x => match Nat.beq x.cells.length m && x.part with
        | true => match elemsV m (i + 1) r with
          | some xs => some (x.cells :: xs)
          | none => none
        | false => none
      | none => none
    | false => none
/-- texts (true) and truths (false) alone -/
def flatV : List Bool → List V → Bool
  | [], [] => true
  | true :: ks, .str _ :: xs => flatV ks xs
  | false :: ks, .bool _ :: xs => flatV ks xs
  | _, _ => false
def bytesV : List (List V) → Option (List UInt8)
  | [] => some []
  | [.int .u8 n] :: r => match bytesV r with
    | some l => some (UInt8.ofNat n.toNat :: l)
    | none => none
  | _ => none
/-- the bits of two numbers -/
def bitV (op : BinOp) (k : IntKind) (a b : Int) : Int := match op with
  | .and => k.wrap (BitVec.ofInt k.bits a &&& BitVec.ofInt k.bits b).toNat
  | .or => k.wrap (BitVec.ofInt k.bits a ||| BitVec.ofInt k.bits b).toNat
  | .xor => k.wrap (BitVec.ofInt k.bits a ^^^ BitVec.ofInt k.bits b).toNat
  | _ => k.wrap (BitVec.ofInt k.bits a &&& ~~~ BitVec.ofInt k.bits b).toNat
def binS (op : BinOp) (x y : V) (K : V → Prop) : Prop :=
  match op, x, y with
  | .add, .int k a, .int k' b => k = k' ∧ ∃ n, k.wrap (a + b) = n ∧ K (.int k n)
  | .sub, .int k a, .int k' b => k = k' ∧ ∃ n, k.wrap (a - b) = n ∧ K (.int k n)
  | .mul, .int k a, .int k' b => k = k' ∧ ∃ n, k.wrap (a * b) = n ∧ K (.int k n)
  | .quo, .int k a, .int k' b => k = k' ∧ b ≠ 0 ∧ ∃ n, k.wrap (a.tdiv b) = n ∧ K (.int k n)
  | .rem, .int k a, .int k' b => k = k' ∧ b ≠ 0 ∧ ∃ n, a.tmod b = n ∧ K (.int k n)
  | .and, .int k a, .int k' b => k = k' ∧ ∃ n, bitV .and k a b = n ∧ K (.int k n)
  | .or, .int k a, .int k' b => k = k' ∧ ∃ n, bitV .or k a b = n ∧ K (.int k n)
  | .shl, .int k a, .int _ b => 0 ≤ b ∧ ∃ n, k.wrap (a * 2 ^ (min b.toNat k.bits)) = n ∧ K (.int k n)
  | .shr, .int k a, .int _ b => 0 ≤ b ∧ ∃ n, a.fdiv (2 ^ (min b.toNat k.bits)) = n ∧ K (.int k n)
  | .lss, .int k a, .int k' b => k = k' ∧ ∀ q : Bool, (q = true ↔ a < b) → K (.bool q)
  | .leq, .int k a, .int k' b => k = k' ∧ ∀ q : Bool, (q = true ↔ a ≤ b) → K (.bool q)
  | .gtr, .int k a, .int k' b => k = k' ∧ ∀ q : Bool, (q = true ↔ b < a) → K (.bool q)
  | .geq, .int k a, .int k' b => k = k' ∧ ∀ q : Bool, (q = true ↔ b ≤ a) → K (.bool q)
  | .eql, .int k a, .int k' b => k = k' ∧ ∀ q : Bool, (q = true ↔ a = b) → K (.bool q)
  | .neq, .int k a, .int k' b => k = k' ∧ ∀ q : Bool, (q = true ↔ a ≠ b) → K (.bool q)
  | .add, .str a, .str b => a.size + b.size ≤ 9223372036854775807 ∧ ∃ s, a ++ b = s ∧ K (.str s)
  | .eql, .str a, .str b => ∀ q : Bool, (q = true ↔ a = b) → K (.bool q)
  | .neq, .str a, .str b => ∀ q : Bool, (q = true ↔ a ≠ b) → K (.bool q)
  | _, _, _ => False
/-- bools and interfaces against nil: the type says so -/
def eqlS (x y : V) (K : Bool → Prop) : Prop :=
  match x, y with
  | .bool a, .bool b => ∀ q : Bool, (q = true ↔ a = b) → K q
  | .nili, .nili => K true
  | .ifc _ _, .nili => K false
  | .nili, .ifc _ _ => K false
  | _, _ => False
def isConstO : Operand → Bool
  | .const _ => true
  | _ => false
def boundT (st : St) (d : Int) : Option Operand → Option Int
  | none => some d
  | some x => match st.ev x with
    | .v (.int .i64 n) => some n
    | _ => none
/-- a call's contract -/
abbrev Con := FuncId → List T → T → Prop
mutual
def LeT : T → T → Prop
  | _, .un => True
  | .v x, .v y => x = y ∨ (x = .nils ∧ y = .sl [])
  | .own _ _ xs, .v y => y = .sl xs
  | .ptr i o, .ptr j p => i = j ∧ o = p
  | .ro a, .ro b => a = b
  | .fn f cs, .fn g ds => f = g ∧ LeTs cs ds
  | _, _ => False
def LeTs : List T → List T → Prop
  | [], [] => True
  | x :: xs, y :: ys => LeT x y ∧ LeTs xs ys
  | _, _ => False
end
mutual
/-- no pointer into a variable, no row of one's own -/
def T.pure : T → Bool
  | .ptr _ _ => false
  | .own _ _ _ => false
  | .fn _ caps => T.pures caps
  | .tup l => T.pures l
  | _ => true
def T.pures : List T → Bool
  | [] => true
  | t :: r => t.pure && T.pures r
end
def semOp (tb : Tab) (C : Con) (o : Oper) (st : St) (K : T → St → Prop) : Prop :=
  match o.op with
  | .move x => K (st.ev x) st
  | .assign x => K (st.ev x) st
  | .pick c a b => match st.ev c with
    | .v (.bool true) => K (st.ev a) st
    | .v (.bool false) => K (st.ev b) st
    | _ => False
  | .alloc t => match o.dst with
    | some d => match lk t tb.zer with
      | some z => match Nat.blt d st.n with
        | true => frcAll (st.alloc d (z.map T.v)) fun st' => K (.ptr d 0) st'
        | false => False
      | none => False
    | none => False
  | .box _ x => match o.dst with
    | some d => match (st.ev x).cellsT with
      | some cs => match Nat.blt d st.n with
        | true => frcAll (st.alloc d cs) fun st' => K (.ptr d 0) st'
        | false => False
      | none => False
    | none => False
  | .build t ps => match lk t tb.zer with
    | some z => match lk t tb.fld with
      | some fs => match fillV fs z (ps.toList.map fun p => (p.1, (st.ev p.2).toV)) with
        | some cs => K (.v (.agg cs)) st
        | none => False
      | none => False
    | none => False
  | .buildSlice t n ps => match o.dst with
    | some d => match lk t tb.elt with
      | some e => match lk e tb.siz with
        | some q => match elemsV q.1 0 (ps.toList.map fun p => (p.1, (st.ev p.2).toV)) with
          | some xs => match Nat.beq xs.length n with
            | true => match Nat.ble (n * q.1) 1000 with
              | true => match n with
                | 0 => False
                | _ + 1 => frcAll (st.row d e) fun st' => K (.own d e xs) st'
              | false => False
            | false => False
          | none => False
        | none => False
      | none => False
    | none => False
  | .load t x => match lk t tb.siz with
    | some q => match st.ev x with
      | .ptr i o => match lk i st.bs with
        | some cs => match q.2 with
          | true => match toVs ((cs.drop o).take q.1) with
            | some l => match Nat.beq l.length q.1 with
              | true => K (.v (.agg l)) st
              | false => False
            | none => False
          | false => match cs[o]? with
            | some c => K c st
            | none => False
        | none => False
      | .ro cs => match q.2 with
        | true => match Nat.beq (cs.take q.1).length q.1 with
          | true => K (.v (.agg (cs.take q.1))) st
          | false => False
        | false => match cs with
          | c :: _ => K (.v c) st
          | [] => False
      | _ => False
    | none => False
  | .store t x y => match lk t tb.siz with
    | some q => match st.ev x with
      | .ptr i o => match lk i st.bs with
        | some cs => match (st.ev y).cellsT with
          | some ys => match Nat.beq ys.length q.1 with
            | true => match Nat.ble (o + q.1) cs.length with
              | true => frcTs (cs.take o ++ ys ++ cs.drop (o + q.1)) fun cs' => K .un (st.bset i cs')
              | false => False
            | false => False
          | none => False
        | none => False
      | _ => False
    | none => False
  | .fieldAddr s x f => match lk s tb.fld with
    | some fs => match fs[f]? with
      | some q => match st.ev x with
        | .ptr i o => K (.ptr i (o + q.1)) st
        | .ro cs => K (.ro (cs.drop q.1)) st
        | _ => False
      | none => False
    | none => False
  | .field s x f => match lk s tb.fld with
    | some fs => match fs[f]? with
      | some q => match (st.ev x).toV with
        | some (.agg l) => match q.2.2 with
          | true => match Nat.beq ((l.drop q.1).take q.2.1).length q.2.1 with
            | true => K (.v (.agg ((l.drop q.1).take q.2.1))) st
            | false => False
          | false => match l[q.1]? with
            | some y => K (.v y) st
            | none => False
        | _ => False
      | none => False
    | none => False
  | .indexAddr t x ix => match lk t tb.elt with
    | some e => match lk e tb.siz with
      | some q => match (st.ev x).toV with
        | some (.sl xs) => match st.ev ix with
          | .v (.int .i64 n) => ∃ c, 0 ≤ n ∧ xs[n.toNat]? = some c ∧ c.length = q.1 ∧ K (.ro c) st
          | _ => False
        | _ => False
      | none => False
    | none => False
  | .index t x ix => match lk t tb.str with
    | some _ => match st.ev x with
      | .v (.str s) => match st.ev ix with
        | .v (.int .i64 n) => ∃ c : UInt8, 0 ≤ n ∧ s.data.toList[n.toNat]? = some c ∧ K (.v (.int .u8 c.toNat)) st
        | _ => False
      | _ => False
    | none => False
  | .slice t x lo hi mx => match mx with
    | some _ => False
    | none => match (st.ev x).toV with
      | some (.str s) => match lk t tb.str with
        | some _ => match boundT st 0 lo with
          | some l => match boundT st s.size hi with
            | some h => ∃ a b : Nat, l = a ∧ h = b ∧ a ≤ b ∧ b ≤ s.size ∧ ∃ z, s.extract a b = z ∧ K (.v (.str z)) st
            | none => False
          | none => False
        | none => False
      | some (.sl xs) => match lk t tb.elt with
        | some e => match lk e tb.siz with
          | some q => match boundT st 0 lo with
            | some l => match boundT st xs.length hi with
              | some h => ∃ a b : Nat, l = a ∧ h = b ∧ a ≤ b ∧ b ≤ xs.length ∧ (∀ c ∈ xs, c.length = q.1) ∧ ∃ z, (xs.take b).drop a = z ∧ K (.v (.sl z)) st
              | none => False
            | none => False
          | none => False
        | none => False
      | _ => False
  | .extract x i => match st.ev x with
    | .tup l => match l[i]? with
      | some t => K t st
      | none => False
    | _ => False
  | .binOp op t x y _ => match (st.ev x).toV with
    | some a => match (st.ev y).toV with
      | some b => match a, op with
        | .bool _, .eql => match lk t tb.boo with
          | some _ => eqlS a b fun q => K (.v (.bool q)) st
          | none => False
        | .bool _, .neq => match lk t tb.boo with
          | some _ => eqlS a b fun q => K (.v (.bool (!q))) st
          | none => False
        | .nili, .eql => match isConstO y, lk t tb.con with
          | true, some true => eqlS a b fun q => K (.v (.bool q)) st
          | _, _ => False
        | .nili, .neq => match isConstO y, lk t tb.con with
          | true, some true => eqlS a b fun q => K (.v (.bool (!q))) st
          | _, _ => False
        | .ifc _ _, .eql => match isConstO y, lk t tb.con with
          | true, some true => eqlS a b fun q => K (.v (.bool q)) st
          | _, _ => False
        | .ifc _ _, .neq => match isConstO y, lk t tb.con with
          | true, some true => eqlS a b fun q => K (.v (.bool (!q))) st
          | _, _ => False
        | .agg xs, .eql => match b, lk t tb.eqs with
          | .agg ys, some ks => match flatV ks xs && flatV ks ys with
            | true => ∀ q : Bool, (q = true ↔ xs = ys) → K (.v (.bool q)) st
            | false => False
          | _, _ => False
        | .agg xs, .neq => match b, lk t tb.eqs with
          | .agg ys, some ks => match flatV ks xs && flatV ks ys with
            | true => ∀ q : Bool, (q = true ↔ xs = ys) → K (.v (.bool (!q))) st
            | false => False
          | _, _ => False
        | _, _ => binS op a b fun v => K (.v v) st
      | none => False
    | none => False
  | .unOp op _ x => match op, st.ev x with
    | .not, .v (.bool q) => K (.v (.bool (!q))) st
    | .neg, .v (.int k n) => ∃ z, k.wrap (0 - n) = z ∧ K (.v (.int k z)) st
    | _, _ => False
  | .convert s t x => match lk t tb.ints with
    | some k => match lk s tb.ints with
      | some _ => match st.ev x with
        | .v (.int _ a) => ∃ n, k.wrap a = n ∧ K (.v (.int k n)) st
        | _ => False
      | none => False
    | none => match lk t tb.str with
      | some _ => match lk s tb.elt with
        | some e => match lk e tb.ints with
          | some .u8 => match (st.ev x).toV with
            | some (.sl xs) => ∃ l, bytesV xs = some l ∧ K (.v (.str ⟨l.toArray⟩)) st
            | some .nils => K (.v (.str ⟨#[]⟩)) st
            | _ => False
          | _ => False
        | none => False
      | none => False
  | .makeInterface t x => match lk t tb.con with
    | some false => match (st.ev x).toV with
      | some a => K (.v (.ifc t a)) st
      | none => False
    | _ => False
  | .makeFunc fn first captured => match fn with
    | .func f => match first.toList with
      | [] => K (.fn f (captured.toList.map st.ev)) st
      | _ => False
    | _ => False
  | .nilCheck x => match st.ev x with
    | .ptr i o => K (.ptr i o) st
    | .ro cs => K (.ro cs) st
    | _ => False
  | .call c => match c.callee with
    | .builtin .len => match c.args.toList, c.argTypes.toList with
      | [x], [t] => match (st.ev x).toV with
        | some (.str s) => match lk t tb.str with
          | some _ => K (.v (.int .i64 s.size)) st
          | none => False
        | some (.sl xs) => match lk t tb.elt with
          | some _ => K (.v (.int .i64 xs.length)) st
          | none => False
        | some .nils => match lk t tb.elt with
          | some _ => K (.v (.int .i64 0)) st
          | none => False
        | _ => False
      | _, _ => False
    | .builtin .min => match c.args.toList with
      | [x, y] => match st.ev x, st.ev y with
        | .v (.int k a), .v (.int k' b) => ∃ n, (if b < a then b else a) = n ∧ K (.v (.int k n)) st
        | _, _ => False
      | _ => False
    | .builtin .max => match c.args.toList with
      | [x, y] => match st.ev x, st.ev y with
        | .v (.int k a), .v (.int k' b) => ∃ n, (if a < b then b else a) = n ∧ K (.v (.int k n)) st
        | _, _ => False
      | _ => False
    | .builtin .append => match o.dst with
      | some d => match c.args.toList, c.argTypes.toList with
        | [s, x], [t, t'] => match Nat.beq t t', lk t tb.elt with
          | true, some e => match lk e tb.siz with
            | some q => match (st.ev x).toV with
              | some (.sl ys) => match st.ev s with
                | .v .nils => ys.length ≤ 1000000000 ∧ (∀ c ∈ ys, c.length = q.1) ∧ frcAll (st.row d e) fun st' => K (.own d e ys) st'
                | .own k e' xs => match lget st.lv k with
                  | some e'' => match Nat.beq e e'' && Nat.beq e e' with
                    | true => xs.length + ys.length ≤ 1000000000 ∧ (∀ c ∈ ys, c.length = q.1) ∧ ∃ zs, xs ++ ys = zs ∧ frcAll ((st.kill k).row d e) fun st' => K (.own d e zs) st'
                    | false => False
                  | none => False
                | _ => False
              | _ => False
            | none => False
          | _, _ => False
        | _, _ => False
      | none => False
    | .value g => match st.ev g with
      | .fn f caps => match lk f tb.ptrf with
        | some _ => False
        | none => ∃ (args : List T) (r : T), C f args r ∧ LeTs (c.args.toList.map st.ev ++ caps) args ∧ T.pures args = true ∧ r.pure = true ∧ K r st
      | _ => False
    | _ => False
  | _ => False
theorem frc_put {o : Oper} (K : St → Prop) : (fun (t : T) (st' : St) => frcT t fun t => frcSt (st'.put o.dst t) K) = fun t st' => K (st'.put o.dst t) := by
  funext t st'
  rw [frcT_eq, frcSt_eq]
/-- the operation, and what guards it -/
def semG (tb : Tab) (C : Con) (ops : List Oper) (o : Oper) (st : St) (K : St → Prop) : Prop :=
  match o.guard with
  | none => semOp tb C o st fun t st' => frcT t fun t => frcSt (st'.put o.dst t) K
  | some p => match ops[p.1]? with
    | some g => match g.dst with
      | some d => match tget st.env d, p.2 with
        | .v (.bool true), true => semOp tb C o st fun t st' => frcT t fun t => frcSt (st'.put o.dst t) K
        | .v (.bool false), false => semOp tb C o st fun t st' => frcT t fun t => frcSt (st'.put o.dst t) K
        | .v (.bool true), false => frcSt (st.put o.dst (.tup [])) K
        | .v (.bool false), true => frcSt (st.put o.dst (.tup [])) K
        | .tup [], _ => frcSt (st.put o.dst (.tup [])) K
        | _, _ => False
      | none => False
    | none => False
/-- in the text's order -/
def semOps (tb : Tab) (C : Con) (ops : List Oper) : List Oper → St → (St → Prop) → Prop
  | [], st, K => K st
  | o :: r, st, K => semG tb C ops o st fun st' => semOps tb C ops r st' K
/-- in a given order -/
def semSch (tb : Tab) (C : Con) (ops : List Oper) : List Nat → St → (St → Prop) → Prop
  | [], st, K => K st
  | i :: r, st, K => match ops[i]? with
    | some o => semG tb C ops o st fun st' => semSch tb C ops r st' K
    | none => False
end Go.Proofs.YtjmpkbmgcbalkaaGreatDoor
