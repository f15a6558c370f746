/- Several texts, one behind the other. Values in memory: how numbers, texts, structs and slices of them stand in cells; that they stand so in later worlds; what is appended to a list of the function's own; what came in. Of whatever program. Plain laws on texts, their runes and bytes. No program. Slices of bytes: that they read as lists; texts made of them, and they of texts. Conditions: the shape of memory that each theorem names. code.Hex. Conditions: the text has at most 10^8 bytes. esc: isOne, isPlain; bytes goes through a text. Conditions: the slice reads as it lies. Contracts of functions of Go's library, as the kit's shelf proves them of whatever program, at this program's numbers. Each states its own conditions. -/
import Derived.Test.YtiafggoaedifdaaGreatDoorP01
import Derived.Laws.AppendOwn
import Derived.Deep.Upon
import Derived.ChangeSlices
import Derived.OwnWalkIn
import Derived.Maps.AppendAt
import Derived.Deep.AppendLies
import Derived.Shelf.GgClosure.StringsIndexFunc
import Derived.Laws.RangeAny
import Derived.Lib.OthersKept
import Derived.Laws.BytesArg
import Derived.Laws.BytesString
import Derived.Laws.IdiomStrings
import Derived.Lib.ConvBytes
import Derived.Deep.LoopGhost
import Derived.Deep.RegionHeld3
import Derived.Outline
import Derived.RangeFuncBox
import Derived.Shelf.Strings.BuilderK
import Derived.Test.YtiafggoaedifdaaGreatDoorProg
/- Values in memory: how numbers, texts, structs and slices of them stand in cells; that they stand so in later worlds; what is appended to a list of the function's own; what came in. Of whatever program. -/
namespace Go.Proofs.YtiafggoaedifdaaGreatDoor
open Go.RowKit
set_option linter.unusedVariables false
theorem add_add (a : Addr) (m n : Nat) : (a.add m).add n = a.add (m + n) := by
 unfold Addr.add
 by_cases hm : m = 0
 ·subst hm; simp
 ·by_cases hn : n = 0
  ·subst hn; simp [hm]
  ·simp [hm, hn]; omega
theorem add_block (a : Addr) (n : Nat) : (a.add n).block = a.block := by unfold Addr.add; split <;> rfl
theorem add_plain' (b o n : Nat) : (⟨b, o, none⟩ : Addr).add n = ⟨b, o + n, none⟩ := by unfold Addr.add; split <;> simp_all
abbrev View (α : Type) := World → (Nat → Prop) → List Value → α → Prop
structure View.Ok {α : Type} (k : Nat) (R : View α) : Prop where
 mono : ∀ {w av av' vs x}, R w av vs x → (∀ b, av b → av' b) → R w av' vs x
 upd : ∀ {w w' S av vs x}, R w av vs x → Upd S w w' → (∀ b, av b → ¬ S b) → R w' av vs x
 bound : ∀ {w av vs x}, R w av vs x → R w (fun b => av b ∧ b < w.heap.size) vs x
 size : ∀ {w av vs x}, R w av vs x → vs.length = k
 one : ∀ {w av vs x}, R w av vs x → ∀ u ∈ vs, u.oneCell' = true
def VStr : View ByteArray := fun _ _ vs x => vs = [.string x]
def VInt : View Int := fun _ _ vs x => vs = [.int .i64 x]
def VBool : View Bool := fun _ _ vs x => vs = [.bool x]
theorem VStr.ok : View.Ok 1 VStr := ⟨fun h _ => h, fun h _ _ => h, fun h => h, fun h => by rw [h]; rfl, fun h u hu => by rw [h] at hu; obtain rfl := List.mem_singleton.1 hu; rfl⟩
theorem VInt.ok : View.Ok 1 VInt := ⟨fun h _ => h, fun h _ _ => h, fun h => h, fun h => by rw [h]; rfl, fun h u hu => by rw [h] at hu; obtain rfl := List.mem_singleton.1 hu; rfl⟩
theorem VBool.ok : View.Ok 1 VBool := ⟨fun h _ => h, fun h _ _ => h, fun h => h, fun h => by rw [h]; rfl, fun h u hu => by rw [h] at hu; obtain rfl := List.mem_singleton.1 hu; rfl⟩
def VCat {α β : Type} (R : View α) (R' : View β) : View (α × β) := fun w av vs x => ∃ v1 v2, vs = v1 ++ v2 ∧ R w av v1 x.1 ∧ R' w av v2 x.2
theorem VCat.ok {α β : Type} {k k' : Nat} {R : View α} {R' : View β} (h : R.Ok k) (h' : R'.Ok k') : (VCat R R').Ok (k + k') where
 mono := fun ⟨a, b, e, h1, h2⟩ hi => ⟨a, b, e, h.mono h1 hi, h'.mono h2 hi⟩
 upd := fun ⟨a, b, e, h1, h2⟩ hu hi => ⟨a, b, e, h.upd h1 hu hi, h'.upd h2 hu hi⟩
 bound := fun ⟨a, b, e, h1, h2⟩ => ⟨a, b, e, h.bound h1, h'.bound h2⟩
 size := fun ⟨a, b, e, h1, h2⟩ => by rw [e, List.length_append, h.size h1, h'.size h2]
 one := fun ⟨a, b, e, h1, h2⟩ u hu => by
  rw [e] at hu
  rcases List.mem_append.1 hu with hu | hu
  ·exact h.one h1 u hu
  ·exact h'.one h2 u hu
def VSlice {α : Type} (k : Nat) (R : View α) : View (List α) := fun w av vs xs =>
 ∃ A c, vs = [.slice A xs.length c] ∧ xs.length ≤ c ∧ (xs ≠ [] → ∃ b o, A = some ⟨b, o, none⟩ ∧ av b ∧ b < w.heap.size ∧
  ∀ j x, xs[j]? = some x → ∃ ws, R w av ws x ∧ ∀ i u, ws[i]? = some u → w.cell? ⟨b, o + (j * k + i), none⟩ = some u)
theorem VSlice.ok {α : Type} {k : Nat} {R : View α} (h : R.Ok k) : (VSlice k R).Ok 1 where
 mono := fun ⟨A, c, e, hl, hx⟩ hi => ⟨A, c, e, hl, fun hn => by
  obtain ⟨b, o, e1, e2, e3, e4⟩ := hx hn
  exact ⟨b, o, e1, hi _ e2, e3, fun j x hj => by obtain ⟨ws, a, b⟩ := e4 j x hj; exact ⟨ws, h.mono a hi, b⟩⟩⟩
 upd := fun ⟨A, c, e, hl, hx⟩ hu hi => ⟨A, c, e, hl, fun hn => by
  obtain ⟨b, o, e1, e2, e3, e4⟩ := hx hn
  exact ⟨b, o, e1, e2, Nat.lt_of_lt_of_le e3 hu.size, fun j x hj => by
   obtain ⟨ws, a, b⟩ := e4 j x hj
   exact ⟨ws, h.upd a hu hi, fun i u hiu => hu.cell (b i u hiu) (hi _ e2)⟩⟩⟩
 bound := fun ⟨A, c, e, hl, hx⟩ => ⟨A, c, e, hl, fun hn => by
  obtain ⟨b, o, e1, e2, e3, e4⟩ := hx hn
  exact ⟨b, o, e1, ⟨e2, e3⟩, e3, fun j x hj => by obtain ⟨ws, a, b⟩ := e4 j x hj; exact ⟨ws, h.bound a, b⟩⟩⟩
 size := fun ⟨A, c, e, hl, hx⟩ => by rw [e]; rfl
 one := fun ⟨A, c, e, hl, hx⟩ u hu => by rw [e] at hu; obtain rfl := List.mem_singleton.1 hu; rfl
theorem View.Ok.below {α : Type} {k : Nat} {R : View α} (h : R.Ok k) {w w' : World} {av : Nat → Prop} {vs : List Value} {x : α} (hr : R w av vs x) (hb : Below w.heap.size w w') : R w' av vs x :=
 h.upd hr (Upd.of_below (S := fun _ => False) hb) (fun _ _ h => h)
theorem VSlice.nil {α : Type} (k : Nat) (R : View α) (w : World) (av : Nat → Prop) : VSlice k R w av [.slice none 0 0] [] := ⟨none, 0, rfl, Nat.le_refl _, fun h => absurd rfl h⟩
theorem VSlice.open {α : Type} {k : Nat} {R : View α} {w : World} {av : Nat → Prop} {v : Value} {xs : List α} (h : VSlice k R w av [v] xs) : ∃ A c, v = .slice A xs.length c ∧ xs.length ≤ c ∧ (xs ≠ [] → ∃ b o, A = some ⟨b, o, none⟩ ∧ av b ∧ b < w.heap.size ∧
  ∀ j x, xs[j]? = some x → ∃ ws, R w av ws x ∧ ∀ i u, ws[i]? = some u → w.cell? ⟨b, o + (j * k + i), none⟩ = some u) := by
 obtain ⟨A, c, e, hl, hx⟩ := h
 simp only [List.cons.injEq, and_true] at e
 exact ⟨A, c, e, hl, hx⟩
theorem VSlice.drop {α : Type} {k : Nat} {R : View α} {w : World} {av : Nat → Prop} {b o c n : Nat} {xs : List α} (h : VSlice k R w av [.slice (some ⟨b, o, none⟩) n c] xs) (i : Nat) (hi : i ≤ xs.length) :
  VSlice k R w av [.slice (some ⟨b, o + i * k, none⟩) (n - i) (c - i)] (xs.drop i) := by
 obtain ⟨A', c', e, hl, hx⟩ := h
 simp only [List.cons.injEq, Value.slice.injEq, and_true] at e
 obtain ⟨rfl, rfl, rfl⟩ := e
 refine ⟨_, c - i, by rw [List.length_drop], by rw [List.length_drop]; omega, fun hn => ?_⟩
 obtain ⟨b', o', e1, e2, e3, e4⟩ := hx (by rintro rfl; simp at hn)
 simp only [Option.some.injEq, Addr.mk.injEq, and_true] at e1
 obtain ⟨rfl, rfl⟩ := e1
 refine ⟨b, _, rfl, e2, e3, fun j x hj => ?_⟩
 rw [List.getElem?_drop] at hj
 obtain ⟨ws, a, q⟩ := e4 _ x hj
 exact ⟨ws, a, fun i2 u hu => by rw [show o + i * k + (j * k + i2) = o + ((i + j) * k + i2) by rw [Nat.add_mul]; omega]; exact q i2 u hu⟩
theorem VSlice.take {α : Type} {k : Nat} {R : View α} {w : World} {av : Nat → Prop} {A : Option Addr} {c : Nat} {xs : List α} {n : Nat} (h : VSlice k R w av [.slice A n c] xs) (i : Nat) (hi : i ≤ xs.length) (c' : Nat) (hc : i ≤ c') :
  VSlice k R w av [.slice A i c'] (xs.take i) := by
 obtain ⟨A', c1, e, hl, hx⟩ := h
 simp only [List.cons.injEq, Value.slice.injEq, and_true] at e
 obtain ⟨rfl, rfl, rfl⟩ := e
 refine ⟨A, c', by rw [List.length_take, Nat.min_eq_left hi], by rw [List.length_take]; omega, fun hn => ?_⟩
 obtain ⟨b, o, e1, e2, e3, e4⟩ := hx (by rintro rfl; simp at hn)
 refine ⟨b, o, e1, e2, e3, fun j x hj => ?_⟩
 rw [List.getElem?_take] at hj
 split at hj
 ·exact e4 j x hj
 ·cases hj
theorem VSlice.from_end {α : Type} {k : Nat} {R : View α} {w : World} {av : Nat → Prop} {A : Option Addr} {c n : Nat} {xs : List α} (h : VSlice k R w av [.slice A n c] xs) (i : Nat) (hi : i ≤ xs.length) (hc : c = i) : VSlice k R w av [.slice A (n - i) 0] (xs.drop i) := by
 obtain ⟨A', c', e, hl, hx⟩ := h
 simp only [List.cons.injEq, Value.slice.injEq, and_true] at e
 obtain ⟨rfl, rfl, rfl⟩ := e
 have : xs.drop i = [] := List.drop_eq_nil_of_le (by omega)
 rw [this]
 exact ⟨A, 0, by rw [List.length_nil, Nat.sub_eq_zero_of_le (by omega)], Nat.zero_le _, fun h => absurd rfl h⟩
theorem VSlice.from {α : Type} {k : Nat} {R : View α} {w : World} {av : Nat → Prop} {A : Option Addr} {c n : Nat} {xs : List α} (h : VSlice k R w av [.slice A n c] xs) (i : Nat) (hi : i ≤ xs.length) : VSlice k R w av [.slice (A.map fun x => x.add (i * k)) (n - i) (c - i)] (xs.drop i) := by
 have h0 := h
 obtain ⟨A', c', e, hl, hx⟩ := h
 simp only [List.cons.injEq, Value.slice.injEq, and_true] at e
 obtain ⟨rfl, rfl, rfl⟩ := e
 by_cases hn : xs.drop i = []
 ·rw [hn]
  have : xs.length ≤ i := by
   have h2 := congrArg List.length hn
   rw [List.length_drop, List.length_nil] at h2
   omega
  exact ⟨_, c - i, by rw [List.length_nil, Nat.sub_eq_zero_of_le this], Nat.zero_le _, fun h => absurd rfl h⟩
 ·obtain ⟨b, o, rfl, e2⟩ := hx (by rintro rfl; simp at hn)
  have := h0.drop i hi
  simpa [add_plain'] using this
def OwnV {α : Type} (e : TypeId) (k : Nat) (R : View α) (w : World) (base : Nat) (av : Nat → Prop) (v : Value) (xs : List α) : Prop :=
 ∃ vss : List (List Value), vss.length = xs.length ∧ w.ownsRow base e k v xs.length vss.flatten ∧ ∀ (j : Nat) (x : α) (vs : List Value), xs[j]? = some x → vss[j]? = some vs → R w (fun b => av b ∧ b < w.heap.size ∧ some b ≠ v.ownBlock) vs x
theorem OwnV.nil {α : Type} (e : TypeId) (k : Nat) (R : View α) (w : World) (base : Nat) (av : Nat → Prop) : OwnV e k R w base av (.slice none 0 0) [] := ⟨[], rfl, World.ownsRow_nil _ _ _ _, fun j x vs h => by simp at h⟩
theorem OwnV.mono {α : Type} {e : TypeId} {k : Nat} {R : View α} (hR : R.Ok k) {w : World} {base base' : Nat} {av av' : Nat → Prop} {v : Value} {xs : List α} (h : OwnV e k R w base av v xs) (hb : base' ≤ base) (hi : ∀ b, av b → av' b) : OwnV e k R w base' av' v xs := by
 obtain ⟨vss, h1, ⟨h2, h3⟩, h4⟩ := h
 refine ⟨vss, h1, ⟨h2, ?_⟩, fun j x vs hx hv => hR.mono (h4 j x vs hx hv) (fun b hb => ⟨hi b hb.1, hb.2⟩)⟩
 rcases h3 with h | ⟨g, cap, cur, e, hg, r⟩
 ·exact .inl h
 ·exact .inr ⟨g, cap, cur, e, Nat.le_trans hb hg, r⟩
theorem ownsRow_upd {w w' : World} {base : Nat} {e : TypeId} {size n : Nat} {v : Value} {xs : List Value} (h : w.ownsRow base e size v n xs) {S : Nat → Prop} (hu : Upd S w w') (hs : ∀ k, v.ownBlock = some k → ¬ S k) : w'.ownsRow base e size v n xs := by
 obtain ⟨h1, h2⟩ := h
 refine ⟨h1, ?_⟩
 rcases h2 with h2 | ⟨g, cap, cur, rfl, hg, hh, r⟩
 ·exact .inl h2
 ·exact .inr ⟨g, cap, cur, rfl, hg, hu.blk hh (hs g rfl), r⟩
theorem OwnV.upd {α : Type} {e : TypeId} {k : Nat} {R : View α} (hR : R.Ok k) {w w' : World} {base : Nat} {av : Nat → Prop} {v : Value} {xs : List α} (h : OwnV e k R w base av v xs) {S : Nat → Prop} (hu : Upd S w w') (hs : ∀ b, v.ownBlock = some b → ¬ S b) (ha : ∀ b, av b → b < w.heap.size → ¬ S b) :
  OwnV e k R w' base av v xs := by
 obtain ⟨vss, h1, h2, h4⟩ := h
 refine ⟨vss, h1, ownsRow_upd h2 hu hs, fun j x vs hx hv => hR.mono (hR.upd (h4 j x vs hx hv) hu (fun b hb => ha b hb.1 hb.2.1)) (fun b hb => ⟨hb.1, Nat.lt_of_lt_of_le hb.2.1 hu.size, hb.2.2⟩)⟩
theorem OwnV.below {α : Type} {e : TypeId} {k : Nat} {R : View α} (hR : R.Ok k) {w w' : World} {base : Nat} {av : Nat → Prop} {v : Value} {xs : List α} (h : OwnV e k R w base av v xs) (hb : Below w.heap.size w w') : OwnV e k R w' base av v xs :=
 h.upd hR (Upd.of_below (S := fun _ => False) hb) (fun _ _ h => h) (fun _ _ _ h => h)
theorem OwnV.lt {α : Type} {e : TypeId} {k : Nat} {R : View α} {w : World} {base : Nat} {av : Nat → Prop} {v : Value} {xs : List α} (h : OwnV e k R w base av v xs) : ∀ b, v.ownBlock = some b → base ≤ b ∧ b < w.heap.size := by
 obtain ⟨vss, h1, h2, h4⟩ := h
 exact h2.lt
theorem OwnV.shape {α : Type} {e : TypeId} {k : Nat} {R : View α} {w : World} {base : Nat} {av : Nat → Prop} {v : Value} {xs : List α} (h : OwnV e k R w base av v xs) : ∃ A c, v = .slice A xs.length c ∧ xs.length ≤ c ∧ (xs ≠ [] → ∃ g, A = some ⟨g, 0, none⟩) := by
 obtain ⟨vss, h1, h2, h4⟩ := h
 rcases h2.2 with ⟨rfl, h0⟩ | ⟨g, cap, cur, rfl, hb, hh, hnc, _⟩
 ·rw [h0]; exact ⟨none, 0, rfl, Nat.le_refl _, fun h => absurd (List.eq_nil_of_length_eq_zero h0) h⟩
 ·exact ⟨some ⟨g, 0, none⟩, cap, rfl, hnc, fun _ => ⟨g, rfl⟩⟩
theorem flatten_get {k : Nat} : ∀ (vss : List (List Value)) (h : ∀ l ∈ vss, l.length = k) (j i : Nat) (l : List Value) (u : Value), vss[j]? = some l → l[i]? = some u → vss.flatten[j * k + i]? = some u
 | [], _, j, i, l, u, hj, hi => by simp at hj
 | a :: t, h, 0, i, l, u, hj, hi => by
  simp at hj; subst hj
  rw [List.flatten_cons, Nat.zero_mul, Nat.zero_add, List.getElem?_append_left ((List.getElem?_eq_some_iff.1 hi).1)]; exact hi
 | a :: t, h, j + 1, i, l, u, hj, hi => by
  have ha := h a (by simp)
  rw [List.flatten_cons, show (j + 1) * k + i = a.length + (j * k + i) by rw [ha, Nat.add_mul]; omega, List.getElem?_append_right (by omega), Nat.add_sub_cancel_left]
  exact flatten_get t (fun l hl => h l (by simp [hl])) j i l u (by simpa using hj) hi
theorem OwnV.sizes {α : Type} {k : Nat} {R : View α} (hR : R.Ok k) {w : World} {av : Nat → Prop} {xs : List α} {vss : List (List Value)} (h1 : vss.length = xs.length) (h4 : ∀ (j : Nat) (x : α) (vs : List Value), xs[j]? = some x → vss[j]? = some vs → R w av vs x) : ∀ l ∈ vss, l.length = k := by
 intro l hl
 obtain ⟨j, hj, e⟩ := List.mem_iff_getElem.1 hl
 exact hR.size (h4 j (xs[j]'(by omega)) l (List.getElem?_eq_getElem (by omega)) (by rw [← e]; exact List.getElem?_eq_getElem hj))
theorem OwnV.view {α : Type} {e : TypeId} {k : Nat} {R : View α} (hR : R.Ok k) {w : World} {base : Nat} {av : Nat → Prop} {v : Value} {xs : List α} (h : OwnV e k R w base av v xs) : VSlice k R w (fun b => (av b ∨ base ≤ b) ∧ b < w.heap.size) [v] xs := by
 obtain ⟨vss, h1, h2, h4⟩ := h
 have hs := OwnV.sizes hR h1 h4
 rcases h2.2 with ⟨rfl, h0⟩ | ⟨g, cap, cur, rfl, hb, hh, hnc, _⟩
 ·obtain rfl : xs = [] := List.eq_nil_of_length_eq_zero h0
  exact VSlice.nil _ _ _ _
 ·refine ⟨some ⟨g, 0, none⟩, cap, rfl, hnc, fun _ => ⟨g, 0, rfl, ⟨.inr hb, (Array.getElem?_eq_some_iff.1 hh).1⟩, (Array.getElem?_eq_some_iff.1 hh).1, fun j x hj => ?_⟩⟩
  have hjl : j < vss.length := by rw [h1]; exact (List.getElem?_eq_some_iff.1 hj).1
  exact ⟨vss[j], hR.mono (h4 j x _ hj (List.getElem?_eq_getElem hjl)) (fun b hb => ⟨.inl hb.1, hb.2.1⟩), fun i u hu => by rw [← add_plain']; exact h2.cells (g := g) rfl (j * k + i) u (flatten_get vss hs j i _ u (List.getElem?_eq_getElem hjl) hu)⟩
def RowTy (P : Program) (t e : TypeId) (k : Nat) : Prop := P.underlying t = some (.slice e) ∧ ∃ i z, P.info? e = some i ∧ i.zero = some z ∧ i.size = k ∧ i.bytes ≤ 100000 ∧ z.cells.size = k ∧ 0 < k
theorem rowTy_of {P : Program} {t e : TypeId} {k : Nat} (ht : P.underlying t = some (.slice e)) (h : (P.info? e).map (fun i => (i.zero.map (fun z => z.cells.size), i.size, decide (i.bytes ≤ 100000))) = some (some k, k, true)) (hk : 0 < k) : RowTy P t e k := by
 obtain ⟨i0, hi, hz⟩ := Option.map_eq_some_iff.1 h
 simp only [Prod.mk.injEq, Option.map_eq_some_iff, decide_eq_true_eq] at hz
 obtain ⟨⟨z, h1, h2⟩, h3, h4⟩ := hz
 exact ⟨ht, i0, z, hi, h1, h3, h4, h2, hk⟩
theorem flatten_len {k : Nat} : ∀ (wss : List (List Value)) (hs : ∀ l ∈ wss, l.length = k), wss.flatten.length = wss.length * k
 | [], _ => by simp
 | a :: t, h => by
  rw [List.flatten_cons, List.length_append, flatten_len t (fun l hl => h l (by simp [hl])), h a (by simp), List.length_cons, Nat.add_mul]
  omega
theorem flatten_of_cells {k : Nat} (hk : 0 < k) {w : World} {ad : Addr} : ∀ (wss : List (List Value)) (hs : ∀ l ∈ wss, l.length = k) (hc : ∀ j l, wss[j]? = some l → ∀ i u, l[i]? = some u → w.cell? (ad.add (j * k + i)) = some u), ∀ j u, wss.flatten[j]? = some u → w.cell? (ad.add j) = some u := by
 intro wss hs hc j u hj
 have hlt := (List.getElem?_eq_some_iff.1 hj).1
 have hfl := flatten_len wss hs
 have hq : j / k < wss.length := by rw [Nat.div_lt_iff_lt_mul hk]; omega
 have hr : j % k < (wss[j / k]).length := by rw [hs _ (List.getElem_mem hq)]; exact Nat.mod_lt _ hk
 have h1 := flatten_get wss hs (j / k) (j % k) _ _ (List.getElem?_eq_getElem hq) (List.getElem?_eq_getElem hr)
 have hd : j / k * k + j % k = j := by rw [Nat.mul_comm]; exact Nat.div_add_mod j k
 rw [hd, hj] at h1
 have h2 := hc (j / k) _ (List.getElem?_eq_getElem hq) (j % k) _ (List.getElem?_eq_getElem hr)
 rw [hd] at h2
 rw [h2]; exact h1.symm
theorem append_view {P : Program} {α : Type} {R : View α} {t e : TypeId} {k : Nat} (hR : R.Ok k) (hT : RowTy P t e k)
  {w : World} {base : Nat} {av avs : Nat → Prop} {v xv : Value} {xs ys : List α} (hown : OwnV e k R w base av v xs) (hsrc : VSlice k R w avs [xv] ys) (hav : ∀ b, avs b → b < w.heap.size → av b ∧ some b ≠ v.ownBlock) (hn : xs.length + ys.length ≤ 1000000000) (hb : base ≤ w.heap.size) (ty : TypeId) :
  ∃ v' w', (Builtin.append_ #[t, t] ty #[v, xv]).run P w = .ok v' w' ∧ OwnV e k R w' base av v' (xs ++ ys) ∧ w.grownBy w' v.ownBlock ∧ (v'.ownBlock = v.ownBlock ∨ v'.ownBlock = some w.heap.size) := by
 obtain ⟨ht, i0, z, hi, hz0, hz1, hz2, hz3, hk⟩ := hT
 obtain ⟨A, c, e1, hl, hx⟩ := hsrc
 simp only [List.cons.injEq, and_true] at e1
 subst e1
 by_cases hy : ys = []
 ·subst hy
  obtain ⟨B, cap, rfl, hle, _⟩ := hown.shape
  refine ⟨_, w, run_append_nothing w t t ty e i0 ht hi B xs.length cap hle _ ?_, by rw [List.append_nil]; exact hown, grown_refl _ _, .inl rfl⟩
  cases A with
  | none => exact Src.ofNil w ht c
  | some ad => exact Src.ofSlice w ht ad 0 c [] (by simp) (fun j u hu => by simp at hu) (fun u hu => by cases hu)
 ·obtain ⟨sb, so, rfl, hav1, hlt1, hel0⟩ := hx hy
  generalize had : (⟨sb, so, none⟩ : Addr) = ad
  have hel : ∀ j x, ys[j]? = some x → ∃ ws, R w avs ws x ∧ ∀ i u, ws[i]? = some u → w.cell? (ad.add (j * k + i)) = some u := fun j x hj => by
   obtain ⟨ws, h1, h2⟩ := hel0 j x hj
   exact ⟨ws, h1, fun i u hu => by rw [← had, add_plain']; exact h2 i u hu⟩
  have hws : ∃ wss : List (List Value), wss.length = ys.length ∧ ∀ (j : Nat) (y : α) (ws : List Value), ys[j]? = some y → wss[j]? = some ws → R w avs ws y ∧ ∀ i u, ws[i]? = some u → w.cell? (ad.add (j * k + i)) = some u := by
   have hch : ∀ j : Fin ys.length, ∃ ws, R w avs ws ys[j] ∧ ∀ i u, ws[i]? = some u → w.cell? (ad.add (j * k + i)) = some u := fun j => hel j ys[j] (List.getElem?_eq_getElem j.2)
   refine ⟨List.ofFn fun j => (hch j).choose, by simp, fun j y ws hy hw => ?_⟩
   obtain ⟨hj, rfl⟩ := List.getElem?_eq_some_iff.1 hy
   rw [List.getElem?_ofFn, dif_pos hj] at hw
   cases hw
   exact (hch ⟨j, hj⟩).choose_spec
  obtain ⟨wss, hwl, hwe⟩ := hws
  have hsz : ∀ l ∈ wss, l.length = k := OwnV.sizes hR hwl (fun j x vs h1 h2 => (hwe j x vs h1 h2).1)
  have hat : ∀ j (h : j < wss.length), R w avs wss[j] (ys[j]'(by omega)) ∧ ∀ i u, wss[j][i]? = some u → w.cell? (ad.add (j * k + i)) = some u := fun j h => hwe j _ _ (List.getElem?_eq_getElem _) (List.getElem?_eq_getElem h)
  have hfl : wss.flatten.length = ys.length * k := by rw [flatten_len wss hsz, hwl]
  obtain ⟨vss, h1, h2, h4⟩ := hown
  obtain ⟨v', w', hr, g2, g3, _, g5⟩ := run_append_own_at (P := P) w base t ty e i0 z k i0.bytes ht hi hz0 hz1 rfl hz3 hk v xs.length vss.flatten h2 ad ys.length c wss.flatten hfl
   (flatten_of_cells hk wss hsz (fun j l hj => by obtain ⟨hj', rfl⟩ := List.getElem?_eq_some_iff.1 hj; exact (hat j hj').2))
   (fun u hu => by
    obtain ⟨l, hl, hu⟩ := List.mem_flatten.1 hu
    obtain ⟨j, hj, rfl⟩ := List.mem_iff_getElem.1 hl
    exact hR.one (hat j hj).1 u hu)
   (by unfold maxLen; omega) (by have := Nat.mul_le_mul hn hz2; omega) hb
  have hu : Upd (fun b => some b = v.ownBlock) w w' := ⟨g3.os, g3.tape, g3.output, g3.size, fun i hi hn => g3.block i hi hn⟩
  refine ⟨v', w', hr, ⟨vss ++ wss, by simp [h1, hwl], by rw [List.flatten_append, List.length_append]; exact g2, fun j x vs hx hv => ?_⟩, g3, g5⟩
  have key : R w (fun b => av b ∧ b < w.heap.size ∧ some b ≠ v.ownBlock) vs x := by
   by_cases hj : j < xs.length
   ·rw [List.getElem?_append_left hj] at hx
    rw [List.getElem?_append_left (by omega)] at hv
    exact h4 j x vs hx hv
   ·rw [List.getElem?_append_right (by omega)] at hx
    rw [List.getElem?_append_right (by omega), h1] at hv
    exact hR.mono (hR.bound (hwe _ x vs hx hv).1) (fun b hb => by have := hav b hb.1 hb.2; exact ⟨this.1, hb.2, this.2⟩)
  refine hR.mono (hR.upd key hu (fun b hb => hb.2.2)) (fun b hb => ⟨hb.1, Nat.lt_of_lt_of_le hb.2.1 g3.size, ?_⟩)
  rcases g5 with g | g
  ·rw [g]; exact hb.2.2
  ·rw [g]; intro e; have := Option.some.inj e; omega
theorem wpList_append_view {P : Program} {α : Type} {R : View α} {t e : TypeId} {k : Nat} (hR : R.Ok k) (hT : RowTy P t e k) {w : World} {ops : Array Oper} {rest : List Oper} {o : Oper} {a : Act} {Q : Exit → Act → World → Prop} (hgd : o.guard = none) (s x : Operand)
  (ho : o.op = .call { callee := .builtin .append, args := #[s, x], argTypes := #[t, t] })
  {base : Nat} {av avs : Nat → Prop} {v xv : Value} {xs ys : List α} (hs : a.eval s = v) (hown : OwnV e k R w base av v xs) (hx : a.eval x = xv) (hsrc : VSlice k R w avs [xv] ys) (hav : ∀ b, avs b → b < w.heap.size → av b ∧ some b ≠ v.ownBlock) (hn : xs.length + ys.length ≤ 1000000000) (hb : base ≤ w.heap.size)
  (h : ∀ v' w', OwnV e k R w' base av v' (xs ++ ys) → w.grownBy w' v.ownBlock → (v'.ownBlock = v.ownBlock ∨ v'.ownBlock = some w.heap.size) → wpList P ops Q rest (a.put o.dst v') w') : wpList P ops Q (o :: rest) a w := by
 refine wpList_plain hgd fun K hK => ?_
 obtain ⟨v', w', hrun, h1, h2, h3⟩ := append_view hR hT hown hsrc hav hn hb o.type
 unfold Oper.wp
 simp [execOp, ho, resolve, invoke, builtin, hs, hx, hrun, Result.andThen]
 exact hK _ _ (h v' w' h1 h2 h3)
theorem wpListIn_append_view {F : Fence} {nF : Nat} {P : Program} {α : Type} {R : View α} {t e : TypeId} {k : Nat} (hR : R.Ok k) (hT : RowTy P t e k) {w : World} {ops : Array Oper} {rest : List Oper} {o : Oper} {a : Act} {Q : Exit → Act → World → Prop} (hgd : o.guard = none) (s x : Operand)
  (ho : o.op = .call { callee := .builtin .append, args := #[s, x], argTypes := #[t, t] })
  {base : Nat} {av avs : Nat → Prop} {v xv : Value} {xs ys : List α} (hs : a.eval s = v) (hown : OwnV e k R w base av v xs) (hx : a.eval x = xv) (hsrc : VSlice k R w avs [xv] ys) (hav : ∀ b, avs b → b < w.heap.size → av b ∧ some b ≠ v.ownBlock) (hn : xs.length + ys.length ≤ 1000000000) (hb : base ≤ w.heap.size)
  (h : ∀ v' w', OwnV e k R w' base av v' (xs ++ ys) → w.grownBy w' v.ownBlock → (v'.ownBlock = v.ownBlock ∨ v'.ownBlock = some w.heap.size) → wpListIn F nF P ops Q rest (a.put o.dst v') w') : wpListIn F nF P ops Q (o :: rest) a w := by
 refine wpListIn_plain hgd fun K hK => ?_
 obtain ⟨v', w', hrun, h1, h2, h3⟩ := append_view hR hT hown hsrc hav hn hb o.type
 unfold Oper.wpIn
 refine ⟨by simp [Oper.about, ho, resolve, Target.leads, Sem.run_pure], ?_⟩
 rw [Oper.semAt_plain F _ _ (by rw [ho]; intro c hc'; cases hc')]
 simp [execOp, ho, resolve, invoke, builtin, hs, hx, hrun, Result.andThen]
 exact hK _ _ (h v' w' h1 h2 h3)
theorem step_append_view {P : Program} {α : Type} {R : View α} {t e : TypeId} {k : Nat} (hR : R.Ok k) (hT : RowTy P t e k) {w : World} {ops : Array Oper} {o : Oper} {a : Act} {K : Act → World → Prop} {Q : Exit → Act → World → Prop} {E : Prop} (hgd : o.guard = none) (s x : Operand)
  (ho : o.op = .call { callee := .builtin .append, args := #[s, x], argTypes := #[t, t] })
  {base : Nat} {av avs : Nat → Prop} {v xv : Value} {xs ys : List α} (hs : a.eval s = v) (hown : OwnV e k R w base av v xs) (hx : a.eval x = xv) (hsrc : VSlice k R w avs [xv] ys) (hav : ∀ b, avs b → b < w.heap.size → av b ∧ some b ≠ v.ownBlock) (hn : xs.length + ys.length ≤ 1000000000) (hb : base ≤ w.heap.size)
  (h : ∀ v' w', OwnV e k R w' base av v' (xs ++ ys) → w.grownBy w' v.ownBlock → (v'.ownBlock = v.ownBlock ∨ v'.ownBlock = some w.heap.size) → K (a.put o.dst v') w') : if Region.wanted o (yielded ops a.tmps) = true then Oper.wp P o a w K Q else E := by
 have hw : Region.wanted o (yielded ops a.tmps) = true := by simp [Region.wanted, hgd]
 rw [if_pos hw]
 obtain ⟨v', w', hrun, h1, h2, h3⟩ := append_view hR hT hown hsrc hav hn hb o.type
 unfold Oper.wp
 simp [execOp, ho, resolve, invoke, builtin, hs, hx, hrun, Result.andThen]
 exact h v' w' h1 h2 h3
theorem flat_one {α β : Type} (f : α → β) : ∀ zs : List α, zs.map f = (zs.map fun z => [f z]).flatten
 | [] => rfl
 | z :: t => by rw [List.map_cons, List.map_cons, List.flatten_cons, ← flat_one f t]; rfl
theorem VSlice.lit {α : Type} {k : Nat} {R : View α} {w : World} {av : Nat → Prop} {cs : List Value} {e : TypeId} {wss : List (List Value)} {xs : List α} (hR : R.Ok k) (hl : wss.length = xs.length) (hc : cs = wss.flatten) (hel : ∀ (j : Nat) (x : α) (ws : List Value), xs[j]? = some x → wss[j]? = some ws → R w av ws x) (hav : av w.heap.size) (n c : Nat) (hn : n = xs.length) (hnc : xs.length ≤ c) :
  VSlice k R (w.alloc (.cells cs.toArray e)) av [.slice (some ⟨w.heap.size, 0, none⟩) n c] xs := by
 subst hn hc
 refine ⟨_, c, rfl, hnc, fun _ => ⟨_, _, rfl, hav, by simp, fun j x hj => ?_⟩⟩
 have hj2 : j < wss.length := by rw [hl]; exact (List.getElem?_eq_some_iff.1 hj).1
 refine ⟨wss[j], hR.below (hel j x _ hj (List.getElem?_eq_getElem hj2)) (below_new _ _), fun i u hu => ?_⟩
 rw [Nat.zero_add]
 refine cell_new _ _ _ _ _ ?_
 rw [List.getElem?_toArray]
 exact flatten_get wss (OwnV.sizes hR hl hel) j i _ u (List.getElem?_eq_getElem hj2) hu
def eqL {α : Type} (eq : α → α → Bool) : List α → List α → Bool
 | [], [] => true
 | x :: xs, y :: ys => eq x y && eqL eq xs ys
 | _, _ => false
theorem eqL_len {α : Type} (eq : α → α → Bool) : ∀ xs ys : List α, xs.length = ys.length → True := fun _ _ _ => trivial
theorem eqL_ne {α : Type} (eq : α → α → Bool) : ∀ xs ys : List α, xs.length ≠ ys.length → eqL eq xs ys = false
 | [], [], h => absurd rfl h
 | x :: xs, y :: ys, h => by rw [eqL, eqL_ne eq xs ys (by simpa using h), Bool.and_false]
 | [], _ :: _, _ => rfl
 | _ :: _, [], _ => rfl
theorem eqL_iff {α : Type} {eq : α → α → Bool} : ∀ (xs ys : List α), (∀ x ∈ xs, ∀ y, eq x y = true ↔ x = y) → (eqL eq xs ys = true ↔ xs = ys)
 | [], [], _ => by simp [eqL]
 | x :: xs, y :: ys, h => by
  rw [eqL, Bool.and_eq_true, h x (by simp) y, eqL_iff xs ys (fun z hz => h z (by simp [hz])), List.cons.injEq]
 | [], _ :: _, _ => by simp [eqL]
 | _ :: _, [], _ => by simp [eqL]
theorem below_of_own {w a b c : World} {v : Value} (h : Below w.heap.size w a) (hb : Below a.heap.size a b) (hg : b.grownBy c v.ownBlock) (hv : ∀ k, v.ownBlock = some k → w.heap.size ≤ k) : Below w.heap.size w c := by
 have h1 := below_then h hb
 exact ⟨hg.os.trans h1.os, hg.tape.trans h1.tape, hg.output.trans h1.output, Nat.le_trans h1.size hg.size, fun i hi => (hg.block i (Nat.lt_of_lt_of_le hi h1.size) (fun e => by have := hv i e.symm; omega)).trans (h1.block i hi)⟩
theorem cells_get {w : World} {base : Nat} {a : Addr} {n : Nat} {cs : List Value} (h : w.cells? base a n = some cs) : base ≤ a.block ∧ cs.length = n ∧ ∀ i u, cs[i]? = some u → w.cell? (a.add i) = some u := by
 unfold World.cells? at h
 split at h
 ·rename_i hb
  refine ⟨hb, by simpa using mapM_some_length h, fun i u hu => ?_⟩
  have hi : i < n := by have := (List.getElem?_eq_some_iff.1 hu).1; rw [show cs.length = n by simpa using mapM_some_length h] at this; exact this
  have := mapM_some_get h i i (by simp [hi])
  rw [this, hu]
 ·cases h
def Opens (P : Program) {α : Type} (w : World) (R : View α) (G : α → Prop) (t : TypeId) : Prop := ∀ (H : Type) (enc : TypeId × Value → H) fuel cs y, DataW.trod enc P w 0 (fun _ => true) true fuel t cs = some y → ∃ x, R w (fun _ => True) cs x ∧ G x
theorem opens_str {P : Program} {w : World} {t : TypeId} (ht : P.underlying t = some .string) : Opens P w VStr (fun x => x.size ≤ maxLen) t := by
 intro H enc fuel cs y h
 cases fuel with
 | zero => simp [DataW.trod] at h
 | succ n =>
  unfold DataW.trod at h
  rw [ht] at h
  split at h <;> simp_all
  exact ⟨_, rfl, h.1⟩
theorem opens_int {P : Program} {w : World} {t : TypeId} (ht : P.underlying t = some (.int .i64)) : Opens P w VInt (fun x => (Lit.int .i64 x).wf = true) t := by
 intro H enc fuel cs y h
 cases fuel with
 | zero => simp [DataW.trod] at h
 | succ n =>
  unfold DataW.trod at h
  rw [ht] at h
  split at h <;> simp_all
  rename_i k k' n heq
  obtain ⟨⟨_, h1⟩, _⟩ := h
  refine ⟨n, ?_, h1⟩
  show [Value.int k n] = [Value.int .i64 n]
  rw [← heq]
theorem opens_bool {P : Program} {w : World} {t : TypeId} (ht : P.underlying t = some .bool) : Opens P w VBool (fun _ => True) t := by
 intro H enc fuel cs y h
 cases fuel with
 | zero => simp [DataW.trod] at h
 | succ n =>
  unfold DataW.trod at h
  rw [ht] at h
  split at h <;> simp_all
  rename_i b
  cases b
  ·exact .inl (show [Value.bool false] = [Value.bool false] from rfl)
  ·exact .inr (show [Value.bool true] = [Value.bool true] from rfl)
theorem opens_slice {P : Program} {α : Type} {w : World} {R : View α} {G : α → Prop} {t e : TypeId} {k : Nat} (hR : R.Ok k) (hk : P.cellsOf e = k) (hk0 : 0 < k) (ht : P.underlying t = some (.slice e)) (he : Opens P w R G e) : Opens P w (VSlice k R) (fun xs => (∀ x ∈ xs, G x) ∧ xs.length ≤ maxLen) t := by
 intro H enc fuel cs y h
 rcases DataW.trod_slice ht h with ⟨h0, _⟩ | ⟨a, len, cap, elems, rest, n, _, rfl, rfl, hb, hl, hm, hlen, hel, hsp, hns⟩
 ·subst h0
  exact ⟨[], VSlice.nil _ _ _ _, fun x hx => (by cases hx), Nat.zero_le _⟩
 ·subst hk
  have each : ∀ j : Fin len, ∃ x ws, R w (fun _ => True) ws x ∧ G x ∧ ∀ i u, ws[i]? = some u → w.cell? (a.add (j * P.cellsOf e + i)) = some u := fun j => by
   have h1 := hel j j.2
   rw [List.getElem?_eq_getElem (by omega), Option.bind_eq_some_iff] at h1
   obtain ⟨cs, hc, hd⟩ := h1
   obtain ⟨x, hx, hg⟩ := he H enc n cs _ hd
   obtain ⟨_, _, hcell⟩ := cells_get hc
   exact ⟨x, cs, hx, hg, fun i u hu => by rw [← add_add]; exact hcell i u hu⟩
  have hw1 : ∀ (h : 0 < len), ∃ u, w.cell? a = some u := fun h => by
   obtain ⟨ws, h1, h2, h3⟩ := (each ⟨0, h⟩).choose_spec
   have hwl := hR.size h1
   exact ⟨_, by simpa [Addr.add] using h3 0 (ws[0]'(by omega)) (List.getElem?_eq_getElem _)⟩
  have hsp : ∀ (h : 0 < len), a = ⟨a.block, a.off, none⟩ := fun h => by
   obtain ⟨u, hu⟩ := hw1 h
   obtain ⟨b, o, sp⟩ := a
   cases sp with
   | none => rfl
   | some s =>
    unfold World.cell? at hu
    split at hu <;> simp at hu
  refine ⟨List.ofFn fun j => (each j).choose, ⟨some a, cap, by rw [List.length_ofFn], by rw [List.length_ofFn]; exact hl, fun hne => ?_⟩, fun x hx => ?_, by rw [List.length_ofFn]; omega⟩
  ·have hpos : 0 < len := by
    rcases Nat.eq_zero_or_pos len with h | h
    ·subst h; simp at hne
    ·exact h
   refine ⟨a.block, a.off, congrArg some (hsp hpos), trivial, ?_, fun j x hj => ?_⟩
   ·obtain ⟨u, hu⟩ := hw1 hpos
    exact World.block_lt_of_cell? w _ hu
   rw [List.getElem?_ofFn] at hj
   split at hj
   ·cases hj
    rename_i hjl
    obtain ⟨ws, h1, h2, h3⟩ := (each ⟨j, hjl⟩).choose_spec
    exact ⟨ws, h1, fun i u hu => by rw [← add_plain', ← hsp hpos]; exact h3 i u hu⟩
   ·cases hj
  ·obtain ⟨j, rfl⟩ := List.mem_ofFn.1 hx
   obtain ⟨ws, h1, h2, h3⟩ := (each j).choose_spec
   exact h2
end Go.Proofs.YtiafggoaedifdaaGreatDoor
/- Plain laws on texts, their runes and bytes. No program. -/
namespace Go.Proofs.YtiafggoaedifdaaGreatDoor.Txt
open Go
set_option linter.unusedVariables false
theorem bl (s : ByteArray) : s.toList = s.data.toList := ByteArray.toList_eq s
theorem size_list (s : ByteArray) : s.data.toList.length = s.size := by rw [Array.length_toList]; rfl
theorem mk_list (s : ByteArray) : (⟨s.data.toList.toArray⟩ : ByteArray) = s := by simp
theorem size_mk (l : List UInt8) : (⟨l.toArray⟩ : ByteArray).size = l.length := by show l.toArray.size = _; simp
theorem list_mk (l : List UInt8) : (⟨l.toArray⟩ : ByteArray).data.toList = l := rfl
theorem drop_cons (s : ByteArray) (pos : Nat) (h : pos < s.size) : s.data.toList.drop pos = s[pos] :: s.data.toList.drop (pos + 1) := by
 rw [List.drop_eq_getElem_cons (by rw [size_list]; exact h)]; rfl
theorem take_snoc (s : ByteArray) (pos : Nat) (h : pos < s.size) : s.data.toList.take (pos + 1) = s.data.toList.take pos ++ [s[pos]] := by
 rw [List.take_succ_eq_append_getElem (by rw [size_list]; exact h)]; rfl
theorem idx_from (p : Nat → Bool) (hp : ∀ r, 128 ≤ r → p r = true) (s : ByteArray) : ∀ f pos, s.size ≤ pos + f → decide (0 ≤ Lib.idxFuncFrom p true s f pos) = (s.data.toList.drop pos).any (fun c => p c.toNat)
 | 0, pos, h => by
  rw [Lib.idxFuncFrom_end p true s 0 pos (by omega), List.drop_eq_nil_of_le (by rw [size_list]; omega)]; rfl
 | f + 1, pos, h => by
  by_cases hlt : pos < s.size
  ·rw [drop_cons s pos hlt, List.any_cons]
   unfold Lib.idxFuncFrom
   rw [if_pos hlt]
   by_cases ha : (s[pos]).toNat < 128
   ·rw [decode_ascii s pos hlt ha]
    dsimp only
    by_cases hq : p (s[pos]).toNat = true
    ·rw [if_pos hq, hq]; simp
    ·rw [if_neg hq, idx_from p hp s f (pos + 1) (by omega)]
     simp [hq]
   ·have hh := decode_high s pos hlt (by omega)
    rw [if_pos (hp _ hh.1), hp _ (by omega)]
    simp
  ·rw [Lib.idxFuncFrom_end p true s _ pos hlt, List.drop_eq_nil_of_le (by rw [size_list]; omega)]; rfl
theorem idx_any (p : Nat → Bool) (hp : ∀ r, 128 ≤ r → p r = true) (s : ByteArray) : decide (0 ≤ Lib.idxFunc p true s) = s.data.toList.any (fun c => p c.toNat) := by
 unfold Lib.idxFunc
 rw [idx_from p hp s s.size 0 (by omega), List.drop_zero]
end Go.Proofs.YtiafggoaedifdaaGreatDoor.Txt
/- Slices of bytes: that they read as lists; texts made of them, and they of texts. Conditions: the shape of memory that each theorem names. -/
namespace Go.Proofs.YtiafggoaedifdaaGreatDoor
open Go.RowKit
set_option linter.unusedVariables false
def VByte : View UInt8 := fun _ _ vs x => vs = [.int .u8 x.toNat]
theorem VByte.ok : View.Ok 1 VByte := ⟨fun h _ => h, fun h _ _ => h, fun h => h, fun h => by rw [h]; rfl, fun h u hu => by rw [h] at hu; obtain rfl := List.mem_singleton.1 hu; rfl⟩
theorem bytesTy : RowTy Tryz.prog 73 5 1 := rowTy_of Tryz.underlying73 (by kernel_rfl) (by decide)
theorem strOf' (l : List UInt8) : strOfNums (l.map fun x => (x.toNat : Int)) = ⟨l.toArray⟩ := by
 unfold strOfNums
 congr 1
 rw [List.map_map]
 congr 1
 refine (List.map_congr_left (g := id) fun x _ => ?_).trans (List.map_id l)
 show UInt8.ofNat ((x.toNat : Int).toNat) = x
 rw [Int.toNat_natCast]; exact UInt8.ofNat_toNat
theorem bytes_text {w : World} {av : Nat → Prop} {v : Value} {l : List UInt8} (h : VSlice 1 VByte w av [v] l) : (convert 73 9 v).run Tryz.prog w = .ok (.string ⟨l.toArray⟩) w := by
 obtain ⟨A, c, rfl, _, hx⟩ := h.open
 by_cases hl : l = []
 ·subst hl
  cases A with
  | none => exact run_convert_bytes_nil w 73 5 Tryz.underlying73 Tryz.underlying5 0 c 9 Tryz.underlying9
  | some ad =>
   obtain ⟨b, o, s⟩ := ad
   rw [run_convert_bytes_string w 73 9 5 _ _ _ Tryz.underlying73 Tryz.underlying5 Tryz.underlying9]
   rfl
 ·obtain ⟨b, o, rfl, _, _, hc⟩ := hx hl
  rw [← strOf']
  refine run_convert_bytes_arg w 73 5 Tryz.underlying73 Tryz.underlying5 b o l.length c _ (by simp) (fun i hi => ?_) 9 Tryz.underlying9
  obtain ⟨ws, h1, h2⟩ := hc i l[i] (List.getElem?_eq_getElem hi)
  have e1 : ws = [.int .u8 l[i].toNat] := h1
  subst e1
  have h3 := h2 0 _ rfl
  simp only [Nat.mul_one, Nat.add_zero] at h3
  rw [h3]
  simp [List.getD_eq_getElem?_getD, List.getElem?_eq_getElem hi]
theorem text_bytes (W : World) (av : Nat → Prop) (s : ByteArray) (hav : av W.heap.size) : VSlice 1 VByte (Lib.bytesWorld W 5 s) av [.slice (some ⟨W.heap.size, 0, none⟩) s.size (grownCap W s.size 0 5)] s.data.toList := by
 have hl := Txt.size_list s
 refine ⟨some ⟨W.heap.size, 0, none⟩, grownCap W s.size 0 5, by rw [hl], by rw [hl]; exact grownCap_ge _ _ _ _, fun _ => ⟨W.heap.size, 0, rfl, hav, by rw [Lib.bytesWorld_size]; omega, fun j u hu => ⟨_, rfl, fun i x hx => ?_⟩⟩⟩
 have hj : j < s.size := by rw [← hl]; exact (List.getElem?_eq_some_iff.1 hu).1
 have hi : i = 0 := by
  have := (List.getElem?_eq_some_iff.1 hx).1
  simpa using this
 subst hi
 cases hx
 rw [Nat.zero_add, Nat.mul_one, Nat.add_zero, Lib.bytesWorld_cell W 5 s j hj, List.getD_eq_getElem?_getD, hu]
 rfl
theorem text_below (W : World) (s : ByteArray) : Below W.heap.size W (Lib.bytesWorld W 5 s) :=
 ⟨rfl, rfl, rfl, by rw [Lib.bytesWorld_size]; omega, fun i hi => Lib.bytesWorld_at_old W 5 s i hi⟩
theorem lit_bytes (W : World) (av : Nat → Prop) (l : List UInt8) (hav : av W.heap.size) (n c : Nat) (hn : n = l.length) (hc : l.length ≤ c) : VSlice 1 VByte (W.alloc (.cells (l.map fun x => Value.int .u8 x.toNat).toArray 5)) av [.slice (some ⟨W.heap.size, 0, none⟩) n c] l :=
 VSlice.lit (wss := l.map fun x => [.int .u8 x.toNat]) VByte.ok (by simp) (flat_one _ l) (fun j x ws hx hw => by rw [List.getElem?_map, hx] at hw; cases hw; rfl) hav n c hn hc
end Go.Proofs.YtiafggoaedifdaaGreatDoor
/- code.Hex. Conditions: the text has at most 10^8 bytes. -/
namespace Go.Proofs.YtiafggoaedifdaaGreatDoor.Code
open Go.RowKit
set_option linter.unusedVariables false
def hexD (n : Nat) : UInt8 := if n < 10 then UInt8.ofNat (48 + n) else UInt8.ofNat (87 + n)
def hexB (c : UInt8) : List UInt8 := [hexD (c.toNat / 16), hexD (c.toNat % 16)]
def hexL (l : List UInt8) : List UInt8 := l.flatMap hexB
theorem and15 : ∀ n : Fin 256, bits BinOp.and IntKind.u8 ((n.1 : Nat) : Int) 15 = ((n.1 % 16 : Nat) : Int) := by decide +kernel
theorem digit_at (n : Nat) (hn : n < 16) (W : World) : (Instr.index 9 (.string ⟨#[48, 49, 50, 51, 52, 53, 54, 55, 56, 57, 97, 98, 99, 100, 101, 102]⟩) (.int .u8 n)).run Tryz.prog W = .ok (.int .u8 (hexD n).toNat) W := by
 rcases (by omega : n = 0 ∨ n = 1 ∨ n = 2 ∨ n = 3 ∨ n = 4 ∨ n = 5 ∨ n = 6 ∨ n = 7 ∨ n = 8 ∨ n = 9 ∨ n = 10 ∨ n = 11 ∨ n = 12 ∨ n = 13 ∨ n = 14 ∨ n = 15) with rfl | rfl | rfl | rfl | rfl | rfl | rfl | rfl | rfl | rfl | rfl | rfl | rfl | rfl | rfl | rfl <;> kernel_rfl
set_option maxRecDepth 100000 in
set_option maxHeartbeats 4000000 in
theorem hex_calls (s : ByteArray) (w : World) (hs : s.size ≤ 100000000) : Calls Tryz.prog 27 #[.string s] w fun e w' => e = .returned (.string ⟨(hexL s.data.toList).toArray⟩) ∧ Below w.heap.size w w' := by
  have kb := fun W => Lib.run_convert_string_bytes (P := Tryz.prog) W 9 73 5 s Tryz.underlying9 Tryz.underlying73 Tryz.underlying5
  have hsl := Txt.size_list s
  go_enter Tryz.func27, Tryz.ntmps27
  go_wp2_with fail
  have hV := Aside.mk (text_bytes w (fun _ => True) s trivial)
  have hB := Aside.mk (text_below w s)
  have hS : (Lib.bytesWorld w 5 s).heap.size = w.heap.size + 1 := by rw [Lib.bytesWorld_size]
  generalize Lib.bytesWorld w 5 s = W1 at hV hB hS ⊢
  generalize grownCap w s.size 0 5 = cp at hV ⊢
  clear kb
  go_loopg [3, 9] s.size (fun gk v3 v9 wr => ∃ (k : Nat), v9 = .int .i64 k ∧ Aside (k + gk = s.size ∧ OwnV 5 1 VByte wr W1.heap.size (fun b => W1.heap.size ≤ b) v3 (hexL (s.data.toList.take k)) ∧ Below W1.heap.size W1 wr))
  case atStart => exact ⟨0, rfl, ⟨by omega, OwnV.nil _ _ _ _ _ _, Below.refl _ _⟩⟩
  case round =>
    obtain ⟨k, rfl, HI⟩ := hrel
    obtain ⟨i1, i2, i3⟩ := HI.out
    clear HI
    have I2 := Aside.mk i2
    have I3 := Aside.mk i3
    clear i2 i3
    by_cases hk : k < s.size
    · obtain ⟨m, rfl⟩ : ∃ m, gk = m + 1 := ⟨gk - 1, by omega⟩
      have hki : (k : Int) < (s.size : Int) := by omega
      obtain ⟨A, c, eA, _, hx⟩ := hV.out.open
      obtain ⟨b, o, e2, _, hbl, hcell⟩ := hx (by intro e; have := congrArg List.length e; rw [hsl, List.length_nil] at this; omega)
      simp only [Value.slice.injEq] at eA
      obtain ⟨rfl, -, rfl⟩ := eA
      simp only [Option.some.injEq, Addr.mk.injEq, and_true] at e2
      obtain ⟨rfl, rfl⟩ := e2
      obtain ⟨ws, e1, e2⟩ := hcell k s[k] (by rw [List.getElem?_eq_getElem (by omega)]; rfl)
      have e1' : ws = [.int .u8 s[k].toNat] := e1
      subst e1'
      have ck : wr.cell? ⟨w.heap.size, k, none⟩ = some (.int .u8 s[k].toNat) := by
        have := cell_below (e2 0 _ rfl) I3.out
        simpa using this
      have HT := Aside.mk (show hexL (s.data.toList.take (k + 1)) = hexL (s.data.toList.take k) ++ hexB s[k] by rw [Txt.take_snoc s k hk]; simp [hexL])
      have HL := Aside.mk (show (hexL (s.data.toList.take k)).length ≤ 200000000 by
        have : ∀ l : List UInt8, (hexL l).length = 2 * l.length := fun l => by induction l with
          | nil => rfl
          | cons x t ih => rw [hexL, List.flatMap_cons, List.length_append, ← hexL, ih]; simp [hexB]; omega
        rw [this, List.length_take]; omega)
      generalize s[k] = x at ck HT
      have hx256 := x.toNat_lt
      have HSL := Aside.mk hsl
      have HSS := Aside.mk hS
      clear e1 e2 hcell hx hsl hS
      have hand := and15 ⟨x.toNat, hx256⟩
      dsimp only at hand
      obtain ⟨lo, hlo⟩ : ∃ lo, x.toNat % 16 = lo := ⟨_, rfl⟩
      obtain ⟨hi, hhi⟩ : ∃ hi, x.toNat / 16 = hi := ⟨_, rfl⟩
      have hsh : (x.toNat : Int) / 16 = (hi : Int) := by omega
      have hlo16 : lo < 16 := by omega
      have hhi16 : hi < 16 := by omega
      have HX := Aside.mk (show hexB x = [hexD hi, hexD lo] by unfold hexB; rw [hlo, hhi])
      have hi1 := digit_at hi hhi16
      have hi2 := digit_at lo hlo16
      rw [hlo] at hand
      clear hlo hhi
      have HR := Aside.mk (And.intro hlo16 hhi16)
      have hbl2 : W1.heap.size ≤ wr.heap.size := I3.out.size
      clear hlo16 hhi16
      go_wp2_with fail
      go_region_held3 (fun w' => True) (exact trivial) (
        (refine step_append_view VByte.ok bytesTy (by rfl) _ _ (by rfl) (by rfl) (I2.out.below VByte.ok ?_) (by rfl) (xs := hexL (s.data.toList.take k)) (ys := [hexD hi, hexD lo]) (xv := .slice (some ⟨wr.heap.size, 0, none⟩) 2 2) (avs := fun b => b = wr.heap.size) ?_ ?_ ?_ ?_ ?_
         · exact below_new_drew _ _
         · exact (VSlice.ok VByte.ok).below (lit_bytes wr (fun b => b = wr.heap.size) [hexD hi, hexD lo] rfl 2 2 rfl (by simp)) (below_drew _)
         · exact fun b hb _ => ⟨by omega, fun e => by have := (I2.out.lt b e.symm).2; omega⟩
         · (simp only [List.length_cons, List.length_nil]; have := HL.out; omega)
         · exact Nat.le_trans hbl2 (below_new_drew _ _).size
         intro v' w6 hown' hgrow hat))
      all_goals
        rw [← HX.out, ← HT.out] at hown'
        have L1 := Aside.mk hown'
        have L2 := Aside.mk (show Below W1.heap.size W1 w6 from below_of_own I3.out (below_new_drew _ _) hgrow (fun b e => (I2.out.lt b e).1))
        clear hown' hgrow hat hand hi1 hi2
        go_wp2
        go_roundg m
        case measure => omega
        case rel => exact ⟨k + 1, by go_num, ⟨by omega, L1.out, L2.out⟩⟩
    · have hk2 : (s.size : Int) ≤ (k : Int) := by omega
      have HE := Aside.mk (show s.data.toList.take k = s.data.toList from List.take_of_length_le (by rw [hsl]; omega))
      have hconv := bytes_text (I2.out.view VByte.ok)
      rw [HE.out] at hconv
      have HW := Aside.mk (show Below w.heap.size w wr from below_then hB.out I3.out)
      clear hk hsl hS
      go_wp2
      go_ret
      exact ⟨rfl, HW.out⟩
end Go.Proofs.YtiafggoaedifdaaGreatDoor.Code
/- esc: isOne, isPlain; bytes goes through a text. Conditions: the slice reads as it lies. -/
namespace Go.Proofs.YtiafggoaedifdaaGreatDoor.Esc
open Go.RowKit
set_option linter.unusedVariables false
theorem one_calls (b : UInt8) (v : Value) (l : List UInt8) (w : World) (hv : VSlice 1 VByte w (fun _ => True) [v] l) (hl : l.length ≤ 100000000) : Calls Tryz.prog 51 #[.int .u8 b.toNat, v] w fun e w' => e = .returned (.bool (l.contains b)) ∧ w = w' := by
 obtain ⟨A, c, rfl, _, hx⟩ := hv.open
 have HX := Aside.mk hx
 clear hx hv
 go_enter Tryz.func51, Tryz.ntmps51
 go_wp2_with fail
 go_loopg [9] l.length (fun gk v9 wr => ∃ (k : Nat), v9 = .int .i64 k ∧ wr = w ∧ Aside (k + gk = l.length ∧ (l.take k).contains b = false))
 case atStart => exact ⟨0, rfl, rfl, ⟨by omega, by simp⟩⟩
 case round =>
  obtain ⟨k, rfl, rfl, HI⟩ := hrel
  obtain ⟨i1, i2⟩ := HI.out
  have I2 := Aside.mk i2
  clear HI i2
  by_cases hk : k < l.length
  ·obtain ⟨m, rfl⟩ : ∃ m, gk = m + 1 := ⟨gk - 1, by omega⟩
   have hki : (k : Int) < (l.length : Int) := by omega
   obtain ⟨bb, o, rfl, _, hbl, hcell⟩ := HX.out (by rintro rfl; simp at hk)
   obtain ⟨ws, e1, e2⟩ := hcell k l[k] (List.getElem?_eq_getElem hk)
   have e1' : ws = [.int .u8 l[k].toNat] := e1
   subst e1'
   have ck : wr.cell? ⟨bb, o + k, none⟩ = some (.int .u8 l[k].toNat) := by
    have := e2 0 _ rfl
    simpa using this
   have HT := Aside.mk (show (l.take (k + 1)).contains b = (b == l[k]) by rw [List.take_succ_eq_append_getElem hk, List.contains_append, I2.out]; simp only [List.contains_cons, List.contains_nil, Bool.or_false, Bool.false_or])
   have HM := Aside.mk (List.getElem_mem hk)
   generalize l[k] = x at ck HT HM
   clear e1 e2 hcell
   by_cases hbx : b = x
   ·have q : ((b.toNat : Int) == (x.toNat : Int)) = true := by rw [hbx]; simp
    have HQ := Aside.mk (show l.contains b = true by rw [List.contains_iff_mem, hbx]; exact HM.out)
    clear hbx
    go_wp2
    go_ret
    exact ⟨by rw [HQ.out]; rfl, rfl⟩
   ·have q : ((b.toNat : Int) == (x.toNat : Int)) = false := by
     simp only [beq_eq_false_iff_ne]
     intro e
     exact hbx (UInt8.toNat_inj.1 (by omega))
    have HQ := Aside.mk (show (b == x) = false by simp [hbx])
    clear hbx
    go_wp2
    go_roundg m
    case measure => omega
    case rel => exact ⟨k + 1, by go_num, rfl, ⟨by omega, by rw [HT.out, HQ.out]⟩⟩
  ·have hk2 : (l.length : Int) ≤ (k : Int) := by omega
   have HE := Aside.mk (show l.contains b = false by have := I2.out; rwa [List.take_of_length_le (by omega)] at this)
   clear hk
   go_wp2
   go_ret
   exact ⟨by rw [HE.out]; rfl, rfl⟩
def plainB (b : UInt8) : Bool := decide (32 ≤ b.toNat) && decide (b.toNat ≤ 126)
theorem plain_calls (b : UInt8) (w : World) : Calls Tryz.prog 50 #[.int .u8 b.toNat] w fun e w' => e = .returned (.bool (plainB b)) ∧ w = w' := by
 by_cases h1 : 32 ≤ b.toNat <;> by_cases h2 : b.toNat ≤ 126
 all_goals
  have z1 : (32 : Int) ≤ (b.toNat : Int) ↔ 32 ≤ b.toNat := by omega
  have z2 : (b.toNat : Int) ≤ 126 ↔ b.toNat ≤ 126 := by omega
  go_enter Tryz.func50, Tryz.ntmps50
  go_wp2
  all_goals first | (exfalso; omega) | (go_ret; exact ⟨by simp [plainB, h1, h2], rfl⟩)
theorem bytes_maker (s : ByteArray) (w : World) :
  Calls Tryz.prog 78 #[.string s] w fun e w' => e = .returned (.func (.func 105) #[] #[.pointer (some ⟨w.heap.size, 0, none⟩)]) ∧ w.alloc (.cells #[.string s] 9) = w' := by
 go_enter Tryz.func78, Tryz.ntmps78
 go_wp2
 go_ret
 exact ⟨rfl, rfl⟩
attribute [local go_sem] Oper.semAt_some
theorem bytes_iter {l0 Bx : Nat} {s : ByteArray} (hs : s.size ≤ 1000000000) (J : List UInt8 → World → Prop) (hJx : ∀ pre W, J pre W → W.cell? ⟨Bx, 0, none⟩ = some (.string s))
  (hY : ∀ k (hk : k < s.size) W, J (s.data.toList.take k) W → ∃ fn tmps assign body, (Instr.yield l0 #[.int .i64 k, .int .u8 s[k].toNat]).run Tryz.prog W = .ok (.round l0 fn tmps assign body) W ∧ RoundIn Fence.wide 0 Tryz.prog l0 fn tmps assign body W (fun e W' => e = .returned (.bool true) ∧ J (s.data.toList.take (k + 1)) W'))
  (W : World) (h0 : J [] W) :
  Calls Tryz.prog 105 #[.func (.yield l0) #[] #[], .pointer (some ⟨Bx, 0, none⟩)] W fun e W' => (∃ v, e = .returned v) ∧ J s.data.toList W' := by
 have c0 := hJx [] W h0
 have HSL := Aside.mk (Txt.size_list s)
 go_enter Tryz.func105, Tryz.ntmps105
 go_wp2
 go_step3
 go_wp2
 go_step3
 go_wp2
 go_loopg [6] s.size (fun gk v6 wr => ∃ k : Nat, v6 = .int .i64 k ∧ Aside (k + gk = s.size ∧ J (s.data.toList.take k) wr))
 case atStart => exact ⟨0, rfl, ⟨by omega, h0⟩⟩
 case round =>
  obtain ⟨k, rfl, HI⟩ := hrel
  obtain ⟨i1, i2⟩ := HI.out
  have I2 := Aside.mk i2
  clear HI i2 c0
  have c0 := hJx _ _ I2.out
  by_cases hk : k < s.size
  ·obtain ⟨m, rfl⟩ : ∃ m, gk = m + 1 := ⟨gk - 1, by omega⟩
   have hki : (k : Int) < (s.size : Int) := by omega
   obtain ⟨fn, tm, asg, bo, hy, hR⟩ := hY k hk wr I2.out
   have HRR := Aside.mk hR
   clear hR
   refine (wpIn_wide (n := 1)).1 ?_
   gi_wp2_with fail
   refine HRR.out.mono ?_
   rintro e w3 ⟨rfl, hJ3⟩
   have HJ3 := Aside.mk hJ3
   clear hJ3 hy
   gi_wp2
   go_roundg m
   case measure => omega
   case rel => exact ⟨k + 1, by go_num, ⟨by omega, HJ3.out⟩⟩
  ·have hk2 : (s.size : Int) ≤ (k : Int) := by omega
   have HE := Aside.mk (show J s.data.toList wr by have := I2.out; rwa [List.take_of_length_le (by have := HSL.out; omega)] at this)
   clear hk
   go_wp2
   rw [Exit.noGoto_normal]
   go_end0
   exact ⟨⟨_, rfl⟩, HE.out⟩
end Go.Proofs.YtiafggoaedifdaaGreatDoor.Esc
/- Contracts of functions of Go's library, as the kit's shelf proves them of whatever program, at this program's numbers. Each states its own conditions. -/
namespace Go.Proofs.YtiafggoaedifdaaGreatDoor
open Go.Shelf
def Shelf.Laysn167_ren : Go.Shelf.Ren := ⟨fun | 167 => 79 | 240 => 93 | 276 => 121 | n => n, fun | 0 => 0 | 4 => 4 | 5 => 5 | 9 => 9 | 20 => 20 | 37 => 73 | 70 => 88 | 72 => 90 | 75 => 61 | 80 => 95 | 164 => 133 | n => n, fun  | n => n⟩
theorem Shelf.Laysn167 : Go.Proofs.Lays.n167 Tryz.prog Shelf.Laysn167_ren := {
 mixed := by kernel_rfl
 f167 := Tryz.func79.trans (congrArg some (by kernel_rfl))
 f240 := Tryz.func93.trans (congrArg some (by kernel_rfl))
 f276 := Tryz.func121.trans (congrArg some (by kernel_rfl))
 t0 := Tryz.underlying0
 a0 := Tryz.isAgg0
 z0 := Tryz.sizeOf0
 v0 := Tryz.zeroValue0
 t4 := Tryz.underlying4
 a4 := Tryz.isAgg4
 z4 := Tryz.sizeOf4
 v4 := Tryz.zeroValue4
 t5 := Tryz.underlying5
 a5 := Tryz.isAgg5
 z5 := Tryz.sizeOf5
 v5 := Tryz.zeroValue5
 t9 := Tryz.underlying9
 a9 := Tryz.isAgg9
 z9 := Tryz.sizeOf9
 v9 := Tryz.zeroValue9
 t20 := Tryz.underlying20
 a20 := Tryz.isAgg20
 z20 := Tryz.sizeOf20
 v20 := Tryz.zeroValue20
 t37 := Tryz.underlying73
 a37 := Tryz.isAgg73
 z37 := Tryz.sizeOf73
 v37 := Tryz.zeroValue73
 t70 := Tryz.underlying88
 a70 := Tryz.isAgg88
 z70 := Tryz.sizeOf88
 v70 := Tryz.zeroValue88
 t72 := Tryz.underlying90
 a72 := Tryz.isAgg90
 z72 := Tryz.sizeOf90
 v72 := Tryz.zeroValue90
 t75 := Tryz.underlying61
 a75 := Tryz.isAgg61
 z75 := Tryz.sizeOf61
 v75 := Tryz.zeroValue61
 t164 := Tryz.underlying133
 a164 := Tryz.isAgg133
 z164 := Tryz.sizeOf133
 v164 := Tryz.zeroValue133 }
theorem Shelf.Builder_Extra_Laysn167 : Builder.Extra Tryz.prog Shelf.Laysn167_ren := {
 sizeBuilder := by kernel_rfl
 liesBuilder := by kernel_rfl
 t5 := Tryz.underlying5
 a5 := Tryz.isAgg5
 z5 := Tryz.sizeOf5
 v5 := Tryz.zeroValue5
 infoByte := by kernel_rfl
 cellsByte := by kernel_rfl
 sizeByte := by kernel_rfl
 neB5 := by decide }
open Go.RowKit in
theorem Shelf.Builder_WriteByte_k  (B b : Nat) (bs : List Value) (c : Int) (w : World) (h : Lib.IsBuilderF 90 5 B b bs w) (hlen : bs.length + 1 ≤ 140737488355328) (hBw : B ≤ w.heap.size) :
  Calls Tryz.prog 79 #[.pointer (some ⟨b, 0, none⟩), .int .u8 c] w fun e w' => e = .returned .nilIface ∧ (Lib.BuilderAtF 90 5 B b (.pointer (some ⟨b, 0, none⟩)) (bs ++ [.int .u8 c]) w' ∧ Below B w w' ∧ Lib.OthersKept 5 (some b) w w') := Any.Builder_WriteByte_k Shelf.Laysn167 Shelf.Builder_Extra_Laysn167 B b bs c w h hlen hBw
def Shelf.Laysn166_ren : Go.Shelf.Ren := ⟨fun | 166 => 63 | 240 => 93 | 276 => 121 | n => n, fun | 0 => 0 | 3 => 3 | 4 => 4 | 5 => 5 | 9 => 9 | 20 => 20 | 37 => 73 | 70 => 88 | 72 => 90 | 75 => 61 | 80 => 95 | 164 => 133 | n => n, fun  | n => n⟩
theorem Shelf.Laysn166 : Go.Proofs.Lays.n166 Tryz.prog Shelf.Laysn166_ren := {
 mixed := by kernel_rfl
 f166 := Tryz.func63.trans (congrArg some (by kernel_rfl))
 f240 := Tryz.func93.trans (congrArg some (by kernel_rfl))
 f276 := Tryz.func121.trans (congrArg some (by kernel_rfl))
 t0 := Tryz.underlying0
 a0 := Tryz.isAgg0
 z0 := Tryz.sizeOf0
 v0 := Tryz.zeroValue0
 t3 := Tryz.underlying3
 a3 := Tryz.isAgg3
 z3 := Tryz.sizeOf3
 v3 := Tryz.zeroValue3
 t4 := Tryz.underlying4
 a4 := Tryz.isAgg4
 z4 := Tryz.sizeOf4
 v4 := Tryz.zeroValue4
 t9 := Tryz.underlying9
 a9 := Tryz.isAgg9
 z9 := Tryz.sizeOf9
 v9 := Tryz.zeroValue9
 t20 := Tryz.underlying20
 a20 := Tryz.isAgg20
 z20 := Tryz.sizeOf20
 v20 := Tryz.zeroValue20
 t37 := Tryz.underlying73
 a37 := Tryz.isAgg73
 z37 := Tryz.sizeOf73
 v37 := Tryz.zeroValue73
 t70 := Tryz.underlying88
 a70 := Tryz.isAgg88
 z70 := Tryz.sizeOf88
 v70 := Tryz.zeroValue88
 t72 := Tryz.underlying90
 a72 := Tryz.isAgg90
 z72 := Tryz.sizeOf90
 v72 := Tryz.zeroValue90
 t75 := Tryz.underlying61
 a75 := Tryz.isAgg61
 z75 := Tryz.sizeOf61
 v75 := Tryz.zeroValue61
 t164 := Tryz.underlying133
 a164 := Tryz.isAgg133
 z164 := Tryz.sizeOf133
 v164 := Tryz.zeroValue133 }
theorem Shelf.Builder_Extra_Laysn166 : Builder.Extra Tryz.prog Shelf.Laysn166_ren := {
 sizeBuilder := by kernel_rfl
 liesBuilder := by kernel_rfl
 t5 := Tryz.underlying5
 a5 := Tryz.isAgg5
 z5 := Tryz.sizeOf5
 v5 := Tryz.zeroValue5
 infoByte := by kernel_rfl
 cellsByte := by kernel_rfl
 sizeByte := by kernel_rfl
 neB5 := by decide }
open Go.RowKit in
theorem Shelf.Builder_WriteString_k  (B b : Nat) (bs : List Value) (s : ByteArray) (w : World) (h : Lib.IsBuilderF 90 5 B b bs w) (hlen : bs.length + s.size ≤ 140737488355328) (hBw : B ≤ w.heap.size) :
  Calls Tryz.prog 63 #[.pointer (some ⟨b, 0, none⟩), .string s] w fun e w' => e = .returned (.tuple #[.int .i64 s.size, .nilIface]) ∧ (Lib.BuilderAtF 90 5 B b (.pointer (some ⟨b, 0, none⟩)) (bs ++ Lib.strCells s) w' ∧ Below B w w' ∧ Lib.OthersKept 5 (some b) w w') := Any.Builder_WriteString_k Shelf.Laysn166 Shelf.Builder_Extra_Laysn166 B b bs s w h hlen hBw
def Shelf.Laysn169_ren : Go.Shelf.Ren := ⟨fun | 169 => 65 | n => n, fun | 0 => 0 | 3 => 3 | 5 => 5 | 9 => 9 | 37 => 73 | 70 => 88 | 72 => 90 | 127 => 143 | n => n, fun  | n => n⟩
theorem Shelf.Laysn169 : Go.Proofs.Lays.n169 Tryz.prog Shelf.Laysn169_ren := {
 mixed := by kernel_rfl
 f169 := Tryz.func65.trans (congrArg some (by kernel_rfl))
 t0 := Tryz.underlying0
 a0 := Tryz.isAgg0
 z0 := Tryz.sizeOf0
 v0 := Tryz.zeroValue0
 t3 := Tryz.underlying3
 a3 := Tryz.isAgg3
 z3 := Tryz.sizeOf3
 v3 := Tryz.zeroValue3
 t9 := Tryz.underlying9
 a9 := Tryz.isAgg9
 z9 := Tryz.sizeOf9
 v9 := Tryz.zeroValue9
 t37 := Tryz.underlying73
 a37 := Tryz.isAgg73
 z37 := Tryz.sizeOf73
 v37 := Tryz.zeroValue73
 t70 := Tryz.underlying88
 a70 := Tryz.isAgg88
 z70 := Tryz.sizeOf88
 v70 := Tryz.zeroValue88
 t72 := Tryz.underlying90
 a72 := Tryz.isAgg90
 z72 := Tryz.sizeOf90
 v72 := Tryz.zeroValue90
 t127 := Tryz.underlying143
 a127 := Tryz.isAgg143
 z127 := Tryz.sizeOf143
 v127 := Tryz.zeroValue143 }
theorem Shelf.Builder_Extra_Laysn169 : Builder.Extra Tryz.prog Shelf.Laysn169_ren := {
 sizeBuilder := by kernel_rfl
 liesBuilder := by kernel_rfl
 t5 := Tryz.underlying5
 a5 := Tryz.isAgg5
 z5 := Tryz.sizeOf5
 v5 := Tryz.zeroValue5
 infoByte := by kernel_rfl
 cellsByte := by kernel_rfl
 sizeByte := by kernel_rfl
 neB5 := by decide }
open Go.RowKit in
theorem Shelf.Builder_String_any_k  (B b : Nat) (l : List UInt8) (w : World) (h : Lib.IsBuilderF 90 5 B b (Lib.byteCells l) w) (hBw : B ≤ w.heap.size) :
  Calls Tryz.prog 65 #[.pointer (some ⟨b, 0, none⟩)] w fun e w' => e = .returned (.string ⟨l.toArray⟩) ∧ (Lib.IsBuilderF 90 5 B b (Lib.byteCells l) w' ∧ Below B w w' ∧ Lib.OthersKept 5 (some b) w w') := Any.Builder_String_any_k Shelf.Laysn169 Shelf.Builder_Extra_Laysn169 B b l w h hBw
end Go.Proofs.YtiafggoaedifdaaGreatDoor
