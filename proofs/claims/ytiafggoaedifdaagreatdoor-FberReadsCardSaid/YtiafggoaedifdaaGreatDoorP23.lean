/- Several texts, one behind the other. The walk without memory: functions that fill a strings.Builder of their own. Whatever program. strings.Builder, where a variable is one: what its methods do. Conditions: at most 10^9 bytes. filt, walked: values printed. Conditions: texts of at most 10^6 bytes. -/
import Derived.Test.YtiafggoaedifdaaGreatDoorP22
import Derived.Test.YtiafggoaedifdaaGreatDoorP20
import Derived.Lib.AppendStr
import Derived.Lib.UnsafeStr
import Derived.Test.YtiafggoaedifdaaGreatDoorP02
import Derived.Test.YtiafggoaedifdaaGreatDoorP16
import Derived.Shelf.Strings.Builder1
import Derived.Deep.QuietTactic
import Derived.BigQuiet
import Derived.RegionTactic
import Derived.ChangeAlike
/- The walk without memory: functions that fill a strings.Builder of their own. Whatever program. -/
namespace Go.Proofs.YtiafggoaedifdaaGreatDoor
open Go.RowKit
set_option linter.unusedVariables false
def takeF (ops : Array Oper) (last : Nat) : Bool → Tr → Array Bool → Bool
 | alt, .nil, listed => !alt && (Region.ready .any ops listed == [last] && (Region.ready .any ops (listed.setIfInBounds last true)).isEmpty)
 | alt, .one i r, listed => match alt with
  | true => Nat.blt i 1000 && takeF ops last false r (listed.setIfInBounds i true)
  | false => stepAny ops listed i && takeF ops last false r (listed.setIfInBounds (ixOf i) true)
 | alt, .or a b, listed => (alt || (!(Region.ready .any ops listed).isEmpty && (Region.ready .any ops listed).all fun i => (heads a ++ heads b).contains i)) && (takeF ops last true a listed && takeF ops last true b listed)
section
variable {P : Program} {X : En} {base N : Nat} {S : Nat → Prop} {tb : Tab} {F : Fence} {n : Nat} {ops : Array Oper} {Q : Exit → Act → World → Prop}
variable {Wr : Nat → Prop} {a0 : Act} {w0 : World} {g0 : Gh}
theorem trF_anyK {X0 : En} (hX : X.Le X0) (hF : Open F) (hT : TabOk P tb) (hsel : Region.noSelect ops = true) (hdef : (ops.all fun o => !Op.isDefer o.op) = true) {K : St → Prop} (hWr : ∀ (j : Nat) (o : Oper) (d : Nat), ops[j]? = some o → o.dst = some d → Wr d)
  {last : Nat} (hLast : ∀ fuel listed a w st g, K st → Lnk P X base S N Wr a0 w0 g0 st a w g → Region.ready .any ops listed = [last] → Region.ready .any ops (listed.setIfInBounds last true) = [] → AnyK F n P ops Q (fuel + 1) listed g st.lv a w) (hQp : ∀ c a w, ¬ Q (.panic c) a w) :
  ∀ (t : Tr) (listed : Array Bool) (st : St) (a : Act) (w : World) (g : Gh), semTr tb (Cn P X0) ops.toList t st K → Lnk P X base S N Wr a0 w0 g0 st a w g →
   (∀ fuel, t.dep + 1 ≤ fuel → takeF ops last false t listed = true → AnyK F n P ops Q fuel listed g st.lv a w) ∧
   (∀ fuel, t.dep + 1 ≤ fuel + 1 → takeF ops last true t listed = true → ∀ j ∈ heads t, wpOpIn F n P ops Q j (fun a' w' => ∃ g' lv', (∀ o, ops[j]? = some o → TameB (bad o a) w g st.lv w' g' lv') ∧ Same g.L w g'.L w' ∧ AnyK F n P ops Q fuel (listed.setIfInBounds j true) g' lv' a' w') a w) := by
 intro t
 induction t with
 | nil =>
  intro listed st a w g hs h
  refine ⟨fun fuel hf hok => ?_, fun fuel _ hok j hj => by cases hj⟩
  unfold takeF at hok
  simp only [Bool.not_false, Bool.true_and, Bool.and_eq_true, beq_iff_eq, List.isEmpty_iff] at hok
  obtain ⟨fuel, rfl⟩ : ∃ m, fuel = m + 1 := ⟨fuel - 1, by omega⟩
  exact hLast fuel listed a w st g hs h hok.1 hok.2
 | one i r ih =>
  intro listed st a w g hs h
  refine ⟨fun fuel hf hok => ?_, fun fuel hf hok j hj => ?_⟩
  ·obtain ⟨fuel, rfl⟩ : ∃ m, fuel = m + 1 := ⟨fuel - 1, by simp [Tr.dep] at hf; omega⟩
   unfold takeF at hok
   dsimp only at hok
   rw [Bool.and_eq_true] at hok
   exact any_step hX hF hT hsel hdef hQp hWr hok.1 hs h fun st' a' w' g' hk h' => (ih _ st' a' w' g' hk h').1 fuel (by simp [Tr.dep] at hf; omega) hok.2
  ·unfold takeF at hok
   dsimp only at hok
   rw [Bool.and_eq_true] at hok
   obtain ⟨hlt, hok⟩ := hok
   have hj' : j = i := by simpa [heads] using hj
   subst hj'
   unfold semTr semAt at hs
   rw [hlt] at hs
   dsimp only at hs
   rw [Array.getElem?_toList] at hs
   cases hi : ops[j]? with
   | none => rw [hi] at hs; exact hs.elim
   | some o =>
    rw [hi] at hs
    dsimp only at hs
    have := one_step hX hF hT hWr hi (fuel := fuel) (listed := listed.setIfInBounds j true) (n := n) (Q := Q) hs h fun st' a' w' g' hk h' => (ih _ st' a' w' g' hk h').1 fuel (by simp [Tr.dep] at hf; omega) hok
    rw [hi] at this
    exact this
 | or x y ihx ihy =>
  intro listed st a w g hs h
  obtain ⟨hx, hy⟩ := hs
  have alt : ∀ fuel, (Tr.or x y).dep + 1 ≤ fuel + 1 → takeF ops last true x listed = true → takeF ops last true y listed = true → ∀ j ∈ heads (Tr.or x y), wpOpIn F n P ops Q j (fun a' w' => ∃ g' lv', (∀ o, ops[j]? = some o → TameB (bad o a) w g st.lv w' g' lv') ∧ Same g.L w g'.L w' ∧ AnyK F n P ops Q fuel (listed.setIfInBounds j true) g' lv' a' w') a w := fun fuel hf h1 h2 j hj => by
   rcases List.mem_append.1 hj with hj | hj
   ·exact (ihx listed st a w g hx h).2 fuel (by simp [Tr.dep] at hf; omega) h1 j hj
   ·exact (ihy listed st a w g hy h).2 fuel (by simp [Tr.dep] at hf; omega) h2 j hj
  refine ⟨fun fuel hf hok => ?_, fun fuel hf hok => ?_⟩
  ·unfold takeF at hok
   simp only [Bool.false_or, Bool.and_eq_true] at hok
   obtain ⟨⟨hne, hall⟩, h1, h2⟩ := hok
   have hall' : ∀ j ∈ Region.ready .any ops listed, j ∈ heads (Tr.or x y) := fun j hj => by
    have := List.all_eq_true.1 hall j hj
    simpa [heads] using this
   have hne' : Region.ready .any ops listed ≠ [] := fun e => by rw [e] at hne; cases hne
   cases fuel with
   | zero => omega
   | succ fuel => exact ⟨fun hr => absurd hr hne', fun j hj => alt fuel hf h1 h2 j (hall' j hj)⟩
  ·unfold takeF at hok
   simp only [Bool.true_or, Bool.true_and, Bool.and_eq_true] at hok
   exact alt fuel hf hok.1 hok.2

end
def BU (tB tU : TypeId) (w : World) (b : Nat) (v : Value) (l : List UInt8) : Prop := (∃ p, w.heap[b]? = some (.cells #[p, v] tB (0, 0)) ∧ (p = .pointer none ∨ p = .pointer (some ⟨b, 0, none⟩))) ∧ w.ownsRow (b + 1) tU 1 v l.length (Lib.byteCells l) ∧ (l = [] → v = .slice none 0 0)
def bZ (b : Nat) (v : Value) : Nat → Prop := fun k => k = b ∨ v.ownBlock = some k
structure BldOk (P : Program) (tB tU : TypeId) (fW fS : FuncId) : Prop where
 enW : ∀ (vs : Array Value) (w : World), (callFunc fW vs).run P w = .ok (.enter fW vs) w
 enS : ∀ (vs : Array Value) (w : World), (callFunc fS vs).run P w = .ok (.enter fS vs) w
 ws : ∀ {w : World} {b : Nat} {v : Value} {l : List UInt8} (t : ByteArray), BU tB tU w b v l → b < w.heap.size → l ++ t.data.toList ≠ [] → (l ++ t.data.toList).length ≤ 1000000000 → Calls P fW #[.pointer (some ⟨b, 0, none⟩), .string t] w fun e w' => (∃ x, e = .returned x) ∧ (∃ v', BU tB tU w' b v' (l ++ t.data.toList) ∧ (v'.ownBlock = v.ownBlock ∨ ∀ k, v'.ownBlock = some k → w.heap.size ≤ k)) ∧ Upd (bZ b v) w w'
 tx : ∀ {w : World} {b : Nat} {v : Value} {l : List UInt8}, BU tB tU w b v l → b < w.heap.size → Calls P fS #[.pointer (some ⟨b, 0, none⟩)] w fun e w' => e = .returned (.string ⟨l.toArray⟩) ∧ Upd (bZ b v) w w'
 ne : fW ≠ fS
theorem BU.keep {tB tU : TypeId} {w w' : World} {b : Nat} {v : Value} {l : List UInt8} (h : BU tB tU w b v l) (hk : ∀ k, bZ b v k → w'.heap[k]? = w.heap[k]?) : BU tB tU w' b v l := by
 obtain ⟨⟨p, h1, h2⟩, h3, h4⟩ := h
 refine ⟨⟨p, (hk b (.inl rfl)).trans h1, h2⟩, ⟨h3.1, ?_⟩, h4⟩
 rcases h3.2 with h | ⟨g, cap, cur, e1, e2, e3, e4⟩
 ·exact .inl h
 ·exact .inr ⟨g, cap, cur, e1, e2, (hk g (.inr (by rw [e1]; rfl))).trans e3, e4⟩
theorem BU.cells {tB tU : TypeId} {w : World} {b : Nat} {v : Value} {l : List UInt8} (h : BU tB tU w b v l) {k : Nat} (hk : bZ b v k) : ∃ c t fr, w.heap[k]? = some (.cells c t fr) := by
 obtain ⟨⟨p, h1, h2⟩, h3, h4⟩ := h
 rcases hk with rfl | hk
 ·exact ⟨_, _, _, h1⟩
 ·rcases h3.2 with ⟨h, _⟩ | ⟨g, cap, cur, e1, e2, e3, e4⟩
  ·rw [h] at hk; cases hk
  ·rw [e1] at hk
   cases hk
   exact ⟨_, _, _, e3⟩
theorem BU.ge {tB tU : TypeId} {w : World} {b : Nat} {v : Value} {l : List UInt8} (h : BU tB tU w b v l) {k : Nat} (hk : bZ b v k) : b ≤ k := by
 obtain ⟨_, h3, _⟩ := h
 rcases hk with rfl | hk
 ·exact Nat.le_refl _
 ·have := (h3.lt k hk).1; omega
def isB (fW fS : FuncId) (o : Oper) : Bool := match o.op with
 | .call c => match c.callee with
  | .value (.func f) => Nat.beq f fW || Nat.beq f fS
  | _ => false
 | _ => false
def bPtr (B : Nat) : T := .v (.raw (.pointer (some ⟨B, 0, none⟩)))
def semB1 (fW fS B : Nat) (o : Oper) (l : List UInt8) (st : St) (K : Option (List UInt8) → St → Prop) : Prop := match o.guard, o.op with
 | none, .call c => (c.callee = .value (.func fW) ∧ ∃ x y t l', c.args = #[x, y] ∧ st.ev x = bPtr B ∧ st.ev y = .v (.str t) ∧ l ++ t.data.toList = l' ∧ l' ≠ [] ∧ l'.length ≤ 1000000000 ∧ frcSt (st.put o.dst .un) (K (some l'))) ∨
   (c.callee = .value (.func fS) ∧ ∃ x, c.args = #[x] ∧ st.ev x = bPtr B ∧ frcSt (st.put o.dst (.v (.str ⟨l.toArray⟩))) (K none))
 | _, _ => False
def semB (P : Program) (X : En) (tb : Tab) (fW fS B : Nat) (ops : List Oper) : List Oper → St → Option (List UInt8) → (Option (List UInt8) → St → Prop) → Prop
 | [], st, m, K => K m st
 | o :: r, st, m, K => match isB fW fS o with
  | false => semG tb (Cn P X) ops o st fun st' => semB P X tb fW fS B ops r st' m K
  | true => match m with
   | some l => semB1 fW fS B o l st fun m' st' => semB P X tb fW fS B ops r st' m' K
   | none => False
def seqB (K : Option (List UInt8) → St → Prop) (Q : Exit → Option (List UInt8) → St → Prop) : Exit → Option (List UInt8) → St → Prop
 | .normal, m, st => K m st
 | e, m, st => Q e m st
def blockB (id : Nat) (Q : Exit → Option (List UInt8) → St → Prop) : Exit → Option (List UInt8) → St → Prop
 | .exit j, m, st => match Nat.beq j id with
  | true => Q .normal m st
  | false => Q (.exit j) m st
 | e, m, st => Q e m st
def loopB {α : Type} (I : α → St) (ix : α → Option (List UInt8)) (inv : α → Prop) (rk : α → Nat) (x : α) (Q : Exit → Option (List UInt8) → St → Prop) : Exit → Option (List UInt8) → St → Prop
 | .normal, m, st => ∃ y σ, inv y ∧ ix y = m ∧ rk y < rk x ∧ Wk σ st (I y)
 | e, m, st => Q e m st
def bCode (P : Program) (X : En) (tb : Tab) (fW fS B : Nat) : Code → (Exit → Option (List UInt8) → St → Prop) → Option (List UInt8) → St → Prop
 | .skip, Q, m, st => Q .normal m st
 | .region id ops draw, Q, m, st => match ops.toList.any (isB fW fS) with
  | false => aCode P X tb (.region id ops draw) (fun e st' => Q e m st') st
  | true => match draw with
   | false => semB P X tb fW fS B ops.toList ops.toList st m (Q .normal)
   | true => match m, ops.toList.getLast? with
    | some l, some o => ∃ t : Tr, (Nat.ble (t.dep + 1) ops.size && Region.noSelect ops && (ops.all fun o => !Op.isDefer o.op) && takeF ops (ops.size - 1) false t (Array.replicate ops.size false) && Op.isStore o.op) = true ∧ ∃ st0, semTr tb (Cn P X) ops.toList t st (fun st' => St.le st' st0) ∧ semB1 fW fS B o l st0 (Q .normal)
    | _, _ => False
 | .seq x y, Q, m, st => bCode P X tb fW fS B x (seqB (fun m' st' => bCode P X tb fW fS B y Q m' st') Q) m st
 | .cond c x y, Q, m, st => match st.ev c with
  | .v (.bool true) => bCode P X tb fW fS B x Q m st
  | .v (.bool false) => bCode P X tb fW fS B y Q m st
  | _ => False
 | .block id b, Q, m, st => bCode P X tb fW fS B b (blockB id Q) m st
 | .loop b, Q, m, st => ∃ (α : Type) (I : α → St) (ix : α → Option (List UInt8)) (inv : α → Prop) (rk : α → Nat), (∃ x σ, inv x ∧ ix x = m ∧ Wk σ st (I x)) ∧ ∀ x, inv x → bCode P X tb fW fS B b (loopB I ix inv rk x Q) (ix x) (I x)
 | .exit id, Q, m, st => Q (.exit id) m st
 | .ret, Q, m, st => Q .ret m st
 | _, _, _, _ => False
def zoneB (m : Option (List UInt8)) (B : Nat) (v : Value) : Nat → Prop := fun k => m.isSome = true ∧ bZ B v k
structure RunB (P : Program) (X : En) (tB tU : TypeId) (B base N : Nat) (w0 : World) (g0 : Gh) (m : Option (List UInt8)) (st : St) (a : Act) (W : World) (v : Value) (g : Gh) (ms : List Nat) : Prop where
 bu : ∀ l, m = some l → BU tB tU W B v l
 bb : base ≤ B ∧ B < W.heap.size
 hd : Hd P (X.plus (zoneB m B v) W) base (fun _ => False) st a W g
 lz : ∀ {k o}, g.L k o → ¬ zoneB m B v k
 stp : Stp X base (fun _ => False) N w0 g0 W g
 n : st.n = N
 df : a.defers = marks ms
 mo : MarksOk w0 W ms
theorem Stp.minus {X : En} {base : Nat} {S : Nat → Prop} {N : Nat} {Z : Nat → Prop} {W0 w w' : World} {g g' : Gh} (h : Stp (X.plus Z W0) base S N w g w' g') : Stp X base S N w g w' g' := ⟨h.upd, h.same, fun hl => (h.newL hl).imp id fun h1 => ⟨h1.1, fun h2 => h1.2 (.inl h2)⟩, h.rho, h.obj⟩
theorem plusB_le (X : En) (Z : Nat → Prop) (W : World) : (X.plus Z W).Le X := ⟨fun w h => h.1, fun b h => .inl h⟩
section
variable {P : Program} {X : En} {tb : Tab} {tB tU : TypeId} {fW fS : FuncId} {B base N : Nat} {w0 : World} {g0 : Gh}
theorem RunB.zlt {m : Option (List UInt8)} {st : St} {a : Act} {W : World} {v : Value} {g : Gh} {ms : List Nat} (h : RunB P X tB tU B base N w0 g0 m st a W v g ms) {k : Nat} (hk : zoneB m B v k) : base ≤ k ∧ k < W.heap.size ∧ ∃ c t fr, W.heap[k]? = some (.cells c t fr) := by
 obtain ⟨hm, hz⟩ := hk
 obtain ⟨l, hl⟩ := Option.isSome_iff_exists.1 hm
 obtain ⟨c, t, fr, hc⟩ := (h.bu l hl).cells hz
 exact ⟨Nat.le_trans h.bb.1 ((h.bu l hl).ge hz), (Array.getElem?_eq_some_iff.1 hc).1, c, t, fr, hc⟩
theorem RunB.step {m : Option (List UInt8)} {st : St} {a : Act} {W : World} {v : Value} {g : Gh} {ms : List Nat} (h : RunB P X tB tU B base N w0 g0 m st a W v g ms) {st' : St} {a' : Act} {W' : World} {g' : Gh}
  (hd' : Hd P (X.plus (zoneB m B v) W) base (fun _ => False) st' a' W' g') (hs : Stp (X.plus (zoneB m B v) W) base (fun _ => False) N W g W' g') (hn : st'.n = N) (hm : ∃ ms', a'.defers = marks ms' ++ a.defers ∧ MarksOk W W' ms') :
  ∃ ms', RunB P X tB tU B base N w0 g0 m st' a' W' v g' ms' := by
 obtain ⟨ms', hm1, hm2⟩ := hm
 have hk : ∀ k, zoneB m B v k → W'.heap[k]? = W.heap[k]? := fun k hk => (hd'.E.2 k hk).1
 have hw0 : w0.heap.size ≤ W.heap.size := h.stp.upd.size
 refine ⟨ms' ++ ms, fun l hl => (h.bu l hl).keep fun k hz => hk k ⟨by rw [hl]; rfl, hz⟩, ⟨h.bb.1, Nat.lt_of_lt_of_le h.bb.2 hs.upd.size⟩, hd'.minus.plus (fun k hz => Nat.lt_of_lt_of_le (h.zlt hz).2.1 hs.upd.size) (fun i hi hz => hd'.mm.bxE hi (.inr hz)) (fun key e b hk' hb hz => hd'.mm.ownE hk' hb (.inr hz)), fun {k o} hl hz => ?_, h.stp.trans hs.minus, hn, by rw [hm1, h.df]; simp [marks], ⟨?_, fun r hr => ?_⟩⟩
 ·rcases hs.newL hl with h1 | ⟨_, h1⟩
  ·exact h.lz h1 hz
  ·exact h1 (.inr hz)
 ·refine List.nodup_append.2 ⟨hm2.1, h.mo.1, fun r1 hr1 r2 hr2 => ?_⟩
  rintro rfl
  have h1 := (hm2.2 r1 hr1).1
  have h2 := (Array.getElem?_eq_some_iff.1 (h.mo.2 r1 hr2).2).1
  omega
 ·rcases List.mem_append.1 hr with hr | hr
  ·exact ⟨Nat.le_trans hw0 (hm2.2 r hr).1, (hm2.2 r hr).2⟩
  ·exact ⟨(h.mo.2 r hr).1, hs.obj (h.mo.2 r hr).2 rfl⟩
theorem RunB.build (hE0 : X.E w0) (hb0 : w0.heap.size ≤ base) {m m' : Option (List UInt8)} {st : St} {a : Act} {W W' : World} {v v' : Value} {g : Gh} {ms : List Nat} (h : RunB P X tB tU B base N w0 g0 m st a W v g ms) (hms : m.isSome = true)
  (hu : Upd (bZ B v) W W') (hbu : ∀ l, m' = some l → BU tB tU W' B v' l) (hnew : m'.isSome = true → v'.ownBlock = v.ownBlock ∨ ∀ k, v'.ownBlock = some k → W.heap.size ≤ k) : RunB P X tB tU B base N w0 g0 m' st a W' v' g ms := by
 have hz : ∀ k, bZ B v k → zoneB m B v k := fun k hk => ⟨hms, hk⟩
 have hmaps : MapsK W W' := fun k o h1 h2 => by
  by_cases hk : bZ B v k
  ·obtain ⟨_, _, c, t, fr, hc⟩ := h.zlt (hz k hk)
   rw [hc] at h1; cases h1; cases h2
  ·exact (hu.block k (Array.getElem?_eq_some_iff.1 h1).1 hk).trans h1
 have hobj : ∀ {k : Nat} {o : Obj}, W.heap[k]? = some o → o.isCells = false → W'.heap[k]? = some o := fun {k o} h1 h2 => by
  by_cases hk : bZ B v k
  ·obtain ⟨_, _, c, t, fr, hc⟩ := h.zlt (hz k hk)
   rw [hc] at h1; cases h1; cases h2
  ·exact (hu.block k (Array.getElem?_eq_some_iff.1 h1).1 hk).trans h1
 have hd' := h.hd.minus.upd hu hmaps (fun i hi hk => h.hd.mm.bxE hi (.inr (hz _ hk))) (fun {k o} hl hk => h.lz hl (hz _ hk)) (fun key e b hk' hb hk => h.hd.mm.ownE hk' hb (.inr (hz _ hk))) (fun k hk hE => by
  have h1 := X.lt hE0 hE
  have h2 := (h.zlt (hz k hk)).1
  omega)
 have hnz : ∀ k, zoneB m' B v' k → zoneB m B v k ∨ W.heap.size ≤ k := fun k ⟨h1, h2⟩ => by
  rcases h2 with rfl | h2
  ·exact .inl ⟨hms, .inl rfl⟩
  ·rcases hnew h1 with h3 | h3
   ·exact .inl ⟨hms, .inr (by rw [← h3]; exact h2)⟩
   ·exact .inr (h3 k h2)
 have hzlt : ∀ k, zoneB m' B v' k → k < W'.heap.size := fun k ⟨h1, h2⟩ => by
  obtain ⟨l, hl⟩ := Option.isSome_iff_exists.1 h1
  obtain ⟨c, t, fr, hc⟩ := (hbu l hl).cells h2
  exact (Array.getElem?_eq_some_iff.1 hc).1
 refine ⟨hbu, ⟨h.bb.1, Nat.lt_of_lt_of_le h.bb.2 hu.size⟩, hd'.plus hzlt (fun i hi hk => ?_) (fun key e b hk' hb hk => ?_), fun {k o} hl hk => ?_, h.stp.trans ⟨hu.mono fun k hk => .inr (h.zlt (hz k hk)).1, ⟨fun b o u h1 h2 => ⟨h1, hu.cell h2 (fun hk => h.lz h1 (hz _ hk))⟩, hmaps⟩, .inl, fun _ => rfl, fun h1 h2 => hobj h1 h2⟩, h.n, h.df, ⟨h.mo.1, fun r hr => ⟨(h.mo.2 r hr).1, hobj (h.mo.2 r hr).2 rfl⟩⟩⟩
 ·rcases hnz _ hk with h1 | h1
  ·exact h.hd.mm.bxE hi (.inr h1)
  ·have := h.hd.mm.lt hi; omega
 ·rcases hnz _ hk with h1 | h1
  ·exact h.hd.mm.ownE hk' hb (.inr h1)
  ·obtain ⟨n, vals, o1, _⟩ := h.hd.mm.own hk'
   have := (o1.lt b hb).2; omega
 ·rcases hnz _ hk with h1 | h1
  ·exact h.lz hl h1
  ·have := h.hd.mm.Llt hl; omega
theorem RunB.same {m : Option (List UInt8)} {st : St} {a : Act} {W W' : World} {v : Value} {g : Gh} {ms : List Nat} (h : RunB P X tB tU B base N w0 g0 m st a W v g ms) (hms : m.isSome = true) (hu : Upd (bZ B v) W W') : Same g.L W g.L W' :=
 ⟨fun b o u h1 h2 => ⟨h1, hu.cell h2 (fun hk => h.lz h1 ⟨hms, hk⟩)⟩, fun k o h1 h2 => by
  by_cases hk : bZ B v k
  ·obtain ⟨_, _, c, t, fr, hc⟩ := h.zlt ⟨hms, hk⟩
   rw [hc] at h1; cases h1; cases h2
  ·exact (hu.block k (Array.getElem?_eq_some_iff.1 h1).1 hk).trans h1⟩
def RunBE (P : Program) (X : En) (tB tU : TypeId) (B base N : Nat) (w0 : World) (g0 : Gh) (m : Option (List UInt8)) (st : St) (a : Act) (W : World) : Prop := ∃ v g ms, RunB P X tB tU B base N w0 g0 m st a W v g ms
theorem RunBE.put {m : Option (List UInt8)} {st : St} {a : Act} {W : World} (h : RunBE P X tB tU B base N w0 g0 m st a W) (d : Option Nat) {t : T} {v : Value} (hx : ∀ w g, RepT P w g t v) : RunBE P X tB tU B base N w0 g0 m (st.put d t) (a.put d v) W := by
 obtain ⟨u, g, ms, h⟩ := h
 exact ⟨u, g, ms, h.bu, h.bb, h.hd.put d (hx _ _), h.lz, h.stp, (put_n _ _ _).trans h.n, (put_defers _ _ _).trans h.df, h.mo⟩
theorem b_op (hB : BldOk P tB tU fW fS) (hE0 : X.E w0) (hb0 : w0.heap.size ≤ base) {o : Oper} {l : List UInt8} {st : St} {a : Act} {W : World} {K : Option (List UInt8) → St → Prop} {next : Act → World → Prop} {Q : Exit → Act → World → Prop} {v : Value} {g : Gh} {ms : List Nat} (hs : semB1 fW fS B o l st K) (h : RunB P X tB tU B base N w0 g0 (some l) st a W v g ms)
  (hn : ∀ m' st' a' W', K m' st' → RunBE P X tB tU B base N w0 g0 m' st' a' W' → Same g.L W g.L W' → next a' W') : o.guard = none ∧ o.wpIn Fence.wide 1 P a W next Q := by
 unfold semB1 at hs
 split at hs <;> try exact hs.elim
 rename_i c hg ho
 refine ⟨hg, fun f _ => trivial, ?_⟩
 rw [Oper.semAt_plain _ _ _ (by rw [ho]; intro c h; cases h)]
 have hbu := h.bu l rfl
 rcases hs with ⟨hc, x, y, t, l', hargs, hx, hy, hl', hne, hlen, hK⟩ | ⟨hc, x, hargs, hx, hK⟩
 ·have e1 : a.eval x = .pointer (some ⟨B, 0, none⟩) := by have := h.hd.ev x; rw [hx] at this; exact this
  have e2 : a.eval y = .string t := by have := h.hd.ev y; rw [hy] at this; exact this
  have hrun : (execOp a.eval o).run P W = .ok (.enter fW #[.pointer (some ⟨B, 0, none⟩), .string t]) W := by
   unfold execOp
   have hev : a.eval (.func fW) = .func (.func fW) #[] #[] := rfl
   have harr : c.args.map a.eval = #[.pointer (some ⟨B, 0, none⟩), .string t] := by rw [hargs]; simp [e1, e2]
   simp only [ho, resolve, hc, hev, Deferred.ofValue, Sem.run_bind, Sem.run_pure, Result.andThen_ok, invoke, harr, Array.empty_append, Array.append_empty]
   exact hB.enW _ _
  rw [hrun]
  subst hl'
  refine ⟨fun h => (by cases h), callsIn_wide.2 ((hB.ws t hbu h.bb.2 hne hlen).mono ?_)⟩
  rintro e W' ⟨⟨u, rfl⟩, ⟨v', hb', hv'⟩, hu⟩
  have hr := h.build hE0 hb0 (m' := some (l ++ t.data.toList)) (v' := v') rfl hu (fun l' hl' => by cases hl'; exact hb') (fun _ => hv')
  rw [frcSt_eq] at hK
  exact hn _ _ _ _ hK (RunBE.put ⟨_, _, _, hr⟩ o.dst (t := .un) (fun _ _ => trivial)) (h.same rfl hu)
 ·have e1 : a.eval x = .pointer (some ⟨B, 0, none⟩) := by have := h.hd.ev x; rw [hx] at this; exact this
  have hrun : (execOp a.eval o).run P W = .ok (.enter fS #[.pointer (some ⟨B, 0, none⟩)]) W := by
   unfold execOp
   have hev : a.eval (.func fS) = .func (.func fS) #[] #[] := rfl
   have harr : c.args.map a.eval = #[.pointer (some ⟨B, 0, none⟩)] := by rw [hargs]; simp [e1]
   simp only [ho, resolve, hc, hev, Deferred.ofValue, Sem.run_bind, Sem.run_pure, Result.andThen_ok, invoke, harr, Array.empty_append, Array.append_empty]
   exact hB.enS _ _
  rw [hrun]
  refine ⟨fun h => (by cases h), callsIn_wide.2 ((hB.tx hbu h.bb.2).mono ?_)⟩
  rintro e W' ⟨rfl, hu⟩
  have hr := h.build hE0 hb0 (m' := none) (v' := v) rfl hu (fun l' hl' => by cases hl') (fun h => by cases h)
  rw [frcSt_eq] at hK
  exact hn _ _ _ _ hK (RunBE.put ⟨_, _, _, hr⟩ o.dst (t := .v (.str ⟨l.toArray⟩)) (fun _ _ => rfl)) (h.same rfl hu)
theorem b_ops (hT : TabOk P tb) (hB : BldOk P tB tU fW fS) (hE0 : X.E w0) (hb0 : w0.heap.size ≤ base) {ops : Array Oper} {Q : Exit → Act → World → Prop} {K : Option (List UInt8) → St → Prop}
  (hQ : ∀ m st a W, RunBE P X tB tU B base N w0 g0 m st a W → K m st → Q .normal a W) :
  ∀ (n kx : Nat) (m : Option (List UInt8)) (st : St) (a : Act) (W : World), n + kx = ops.size → semB P X tb fW fS B ops.toList (ops.toList.drop kx) st m K → RunBE P X tB tU B base N w0 g0 m st a W → wpOpsIn Fence.wide 1 P ops Q (List.range' kx n) a W := by
 intro n
 induction n with
 | zero =>
  intro kx m st a W hk hs hr
  rw [List.drop_eq_nil_of_le (by rw [Array.length_toList]; omega)] at hs
  exact hQ m st a W hr hs
 | succ n ih =>
  intro kx m st a W hk hs hr
  rw [List.range'_succ, wpOpsIn_cons]
  have hlt : kx < ops.size := by omega
  rw [List.drop_eq_getElem_cons (by rw [Array.length_toList]; exact hlt)] at hs
  have hi : ops[kx]? = some ops.toList[kx] := by rw [Array.getElem?_eq_getElem hlt]; simp
  generalize ops.toList[kx] = o at hs hi
  unfold semB at hs
  split at hs
  ·obtain ⟨v, g, ms, hr⟩ := hr
   have h1 := semG_wpIn (plusB_le X _ _) (F := Fence.wide) (.inl rfl) hT (n := 1) (N := N) (ops := ops) Q hr.n hr.hd hs
   have next : ∀ a' w', Aft P (X.plus (zoneB m B v) W) base (fun _ => False) N st.lv (bad o a) o.dst a W g (fun st' => semB P X tb fW fS B ops.toList (ops.toList.drop (kx + 1)) st' m K) a' w' → wpOpsIn Fence.wide 1 P ops Q (List.range' (kx + 1) n) a' w' := fun a' w' ⟨st', g', q1, q2, q3, q4, q5, q6, q7⟩ => by
    obtain ⟨ms', hr'⟩ := hr.step q2 q3 (by have e1 := q2.sz; have e2 := hr.hd.sz; have e3 := hr.n; omega) ⟨[], q4, MarksOk.nil _ _⟩
    exact ih (kx + 1) m st' a' w' (by omega) q1 ⟨_, _, _, hr'⟩
   unfold wpOpIn
   simp only [hi]
   split
   ·rename_i hw
    rw [if_pos hw] at h1
    exact Oper.wpIn_mono next h1
   ·rename_i hw
    rw [if_neg hw] at h1
    exact ⟨h1.1, next _ _ h1.2⟩
  ·split at hs <;> try exact hs.elim
   rename_i l
   obtain ⟨v, g, ms, hr⟩ := hr
   obtain ⟨hg, hw⟩ := b_op hB hE0 hb0 (Q := Q) hs hr fun m' st' a' W' hk' hr' _ => ih (kx + 1) m' st' a' W' (by omega) hk' hr'
   unfold wpOpIn
   simp only [hi]
   rw [if_pos (by unfold Region.wanted; rw [hg])]
   exact hw
theorem b_wp (hT : TabOk P tb) (hm : P.follows .mixedOrders = true) (hB : BldOk P tB tU fW fS) (hE0 : X.E w0) (hb0 : w0.heap.size ≤ base) : ∀ (c : Code) (Q : Exit → Option (List UInt8) → St → Prop) (m : Option (List UInt8)) (st : St) (a : Act) (W : World), (∀ ch m st, ¬ Q (.panic ch) m st) → bCode P X tb fW fS B c Q m st → RunBE P X tB tU B base N w0 g0 m st a W →
  c.wpIn Fence.wide 1 P (fun e a' W' => ∃ m' st', Q e m' st' ∧ RunBE P X tB tU B base N w0 g0 m' st' a' W') a W := by
 have piece : ∀ (c : Code) (Q : Exit → St → Prop) (m : Option (List UInt8)) (st : St) (a : Act) (W : World), (∀ ch st, ¬ Q (.panic ch) st) → aCode P X tb c Q st → RunBE P X tB tU B base N w0 g0 m st a W → c.wpIn Fence.wide 1 P (fun e a' W' => ∃ st', Q e st' ∧ RunBE P X tB tU B base N w0 g0 m st' a' W') a W := fun c Q m st a W hp h ⟨v, g, ms, hr⟩ => by
  have hw := code_wp hT hm c (X.plus (zoneB m B v) W) (plusB_le X _ _) base N (fun _ => False) Fence.wide 1 (.inl rfl) (fun _ => True) (fun _ _ => trivial) Q st a W g hp (fun l hl => by cases hl) h hr.hd hr.n
  refine wpIn_mono hw ?_
  rintro e a' W' ⟨st', g', q1, q2, q3, q4, q5, q6⟩
  obtain ⟨ms', hr'⟩ := hr.step q2 q3 q4 q6
  exact ⟨st', q1, _, _, _, hr'⟩
 intro c
 induction c with
 | skip => intro Q m st a W hp h hr; exact wpIn_skip ⟨_, _, h, hr⟩
 | exit id => intro Q m st a W hp h hr; exact wpIn_exit ⟨_, _, h, hr⟩
 | ret => intro Q m st a W hp h hr; exact wpIn_ret ⟨_, _, h, hr⟩
 | label l => intro Q m st a W hp h hr; exact h.elim
 | goto l => intro Q m st a W hp h hr; exact h.elim
 | scope b => intro Q m st a W hp h hr; exact h.elim
 | refuse s => intro Q m st a W hp h hr; exact h.elim
 | rangeFunc fo ps x y => intro Q m st a W hp h hr; exact h.elim
 | region id ops draw =>
  intro Q m st a W hp h hr
  unfold bCode at h
  split at h
  ·exact wpIn_mono (piece _ _ m st a W (fun ch st => hp ch m st) h hr) fun e a' W' ⟨st', h1, h2⟩ => ⟨m, st', h1, h2⟩
  ·split at h
   ·refine wpIn_region ?_
    rw [List.range_eq_range']
    exact b_ops hT hB hE0 hb0 (fun m' st' a' W' h1 h2 => ⟨m', st', h2, h1⟩) ops.size 0 m st a W (by omega) h hr
   ·split at h <;> try exact h.elim
    rename_i l o hlast
    obtain ⟨t, hok, st0, hs, hb1⟩ := h
    simp only [Bool.and_eq_true] at hok
    obtain ⟨⟨⟨⟨o0, o1⟩, o2⟩, o3⟩, o4⟩ := hok
    obtain ⟨v, g, ms, hr⟩ := hr
    have hlo : ops[ops.size - 1]? = some o := by
     rw [List.getLast?_eq_getElem?, Array.length_toList, Array.getElem?_toList] at hlast
     exact hlast
    refine wpIn_region_draw fun tt => ?_
    simp only [Region.schedule, hm, Bool.true_or, if_true]
    have lnk : Lnk P (X.plus (zoneB (some l) B v) W) base (fun _ => False) N (fun _ => True) a W g st a { W with drawn := W.drawn + 1 } g := ⟨hr.hd.drew, Stp.drew, rfl, hr.n, fun _ _ => rfl⟩
    have anyk := (trF_anyK (n := 1) (F := Fence.wide) (Q := fun e a' W' => ∃ m' st', Q e m' st' ∧ RunBE P X tB tU B base N w0 g0 m' st' a' W') (plusB_le X _ _) (.inl rfl) hT o1 o2 (K := fun st' => St.le st' st0) (fun _ _ _ _ _ => trivial) (last := ops.size - 1) (fun fuel listed a1 w1 st1 g1 hk h1 hrd hrd2 => ?_) (fun ch a' w' ⟨m', st', h1, _⟩ => hp ch m' st' h1) t _ st a _ g hs lnk).1 ops.size (Nat.le_of_ble_eq_true o0) o3
    ·exact wpAnyIn_sound ops.size tt _ a _ anyk.any
    ·have hd1 := h1.hd.le' hk
     obtain ⟨ms', hr1⟩ := hr.step (st' := st0) hd1 h1.stp (hk.n.symm.trans h1.n) ⟨[], h1.df, MarksOk.nil _ _⟩
     refine ⟨fun he => (by rw [hrd] at he; cases he), fun i hi => ?_⟩
     rw [hrd, List.mem_singleton] at hi
     subst hi
     obtain ⟨hg, hw⟩ := b_op hB hE0 hb0 (Q := fun e a' W' => ∃ m' st', Q e m' st' ∧ RunBE P X tB tU B base N w0 g0 m' st' a' W') (next := fun a' w' => ∃ g' lv', (∀ o, ops[ops.size - 1]? = some o → TameB (bad o a1) w1 g1 st1.lv w' g' lv') ∧ Same g1.L w1 g'.L w' ∧ AnyK Fence.wide 1 P ops (fun e a' W' => ∃ m' st', Q e m' st' ∧ RunBE P X tB tU B base N w0 g0 m' st' a' W') fuel (listed.setIfInBounds (ops.size - 1) true) g' lv' a' w') hb1 hr1 fun m' st' a' W' hk' hr' hsm => by
      refine ⟨g1, [], fun o' ho' b o u _ hnb => absurd ?_ hnb, ?_, ?_⟩
      ·rw [hlo] at ho'
       cases ho'
       unfold bad
       split
       ·rename_i e; rw [e] at o4
        unfold semB1 at hb1
        rw [e] at hb1
        split at hb1
        ·rename_i e2; cases e2
        ·exact hb1.elim
       ·exact o4
      ·exact hsm
      ·cases fuel with
       | zero => exact ⟨hrd2, m', st', hk', hr'⟩
       | succ fuel => exact ⟨fun _ => ⟨m', st', hk', hr'⟩, by rw [hrd2]; simp⟩
     unfold wpOpIn
     simp only [hlo] at hw ⊢
     rw [if_pos (by unfold Region.wanted; rw [hg])]
     exact hw
 | seq x y ihx ihy =>
  intro Q m st a W hp h hr
  unfold bCode at h
  refine wpIn_seq (wpIn_mono (ihx (seqB (fun m' st' => bCode P X tb fW fS B y Q m' st') Q) m st a W (fun ch m' st' hh => hp ch m' st' hh) h hr) ?_)
  rintro e a1 W1 ⟨m1, st1, q1, q2⟩
  cases e with
  | normal => exact ihy Q m1 st1 a1 W1 hp q1 q2
  | exit id => exact ⟨m1, st1, q1, q2⟩
  | goto l => exact ⟨m1, st1, q1, q2⟩
  | ret => exact ⟨m1, st1, q1, q2⟩
  | panic ch => exact ⟨m1, st1, q1, q2⟩
  | outgrown => exact ⟨m1, st1, q1, q2⟩
 | cond c x y ihx ihy =>
  intro Q m st a W hp h hr
  unfold bCode at h
  obtain ⟨v, g, ms, hr0⟩ := hr
  have hc := hr0.hd.ev c
  split at h
  ·rename_i hq
   rw [hq] at hc
   exact wpIn_cond_true hc (ihx Q m st a W hp h ⟨v, g, ms, hr0⟩)
  ·rename_i hq
   rw [hq] at hc
   exact wpIn_cond_false hc (ihy Q m st a W hp h ⟨v, g, ms, hr0⟩)
  ·exact h.elim
 | block id b ih =>
  intro Q m st a W hp h hr
  refine wpIn_block (wpIn_mono (ih (blockB id Q) m st a W (fun ch m' st' hh => hp ch m' st' hh) h hr) ?_)
  rintro e a1 W1 ⟨m1, st1, q1, q2⟩
  cases e with
  | exit j =>
   unfold blockB at q1
   dsimp only at q1
   split at q1
   ·rename_i hb
    have : j = id := Nat.eq_of_beq_eq_true hb
    simp only [Exit.inBlock, this, if_true]
    exact ⟨m1, st1, q1, q2⟩
   ·rename_i hb
    have : j ≠ id := fun e => by rw [e, Nat.beq_refl] at hb; cases hb
    simp only [Exit.inBlock, this, if_false]
    exact ⟨m1, st1, q1, q2⟩
  | normal => exact ⟨m1, st1, q1, q2⟩
  | goto l => exact ⟨m1, st1, q1, q2⟩
  | ret => exact ⟨m1, st1, q1, q2⟩
  | panic ch => exact ⟨m1, st1, q1, q2⟩
  | outgrown => exact ⟨m1, st1, q1, q2⟩
 | loop b ih =>
  intro Q m st a W hp h hr
  obtain ⟨α, I, ix, inv, rk, ⟨x0, σ0, hi0, rfl, hw0⟩, hrd⟩ := h
  have wk : ∀ {m : Option (List UInt8)} {st : St} {a : Act} {W : World} {x : α} {σ : List (Nat × Option Nat)}, RunBE P X tB tU B base N w0 g0 m st a W → Wk σ st (I x) → RunBE P X tB tU B base N w0 g0 m (I x) a W := fun {m st a W x σ} ⟨v, g, ms, h⟩ hw => by
   obtain ⟨h1, h2⟩ := h.hd.wk (N := N) hw
   exact ⟨v, _, ms, h.bu, h.bb, h1, h.lz, h.stp.trans h2.minus, hw.1.trans h.n, h.df, h.mo⟩
  refine wpIn_loop_ghost (fun kk a1 w1 => ∃ x, inv x ∧ rk x = kk ∧ RunBE P X tB tU B base N w0 g0 (ix x) (I x) a1 w1) (rk x0) ⟨x0, hi0, rfl, wk hr hw0⟩ ?_
  rintro kk a1 w1 ⟨x, hix, rfl, hr1⟩
  refine wpIn_mono (ih (loopB I ix inv rk x Q) (ix x) (I x) a1 w1 (fun ch m' st' hh => hp ch m' st' hh) (hrd x hix) hr1) ?_
  rintro e a2 w2 ⟨m1, st1, q1, q2⟩
  cases e with
  | normal =>
   obtain ⟨y, σ, hiy, rfl, hlt, hw⟩ := q1
   exact ⟨rk y, hlt, y, hiy, rfl, wk q2 hw⟩
  | exit id => exact ⟨m1, st1, q1, q2⟩
  | goto l => exact ⟨m1, st1, q1, q2⟩
  | ret => exact ⟨m1, st1, q1, q2⟩
  | panic ch => exact ⟨m1, st1, q1, q2⟩
  | outgrown => exact ⟨m1, st1, q1, q2⟩
def endB (tb : Tab) (rs : List ResultVar) (r : T) : Exit → Option (List UInt8) → St → Prop
 | .normal, _, st => match resTs tb st rs with
  | some ts => resOk ts r
  | none => False
 | .ret, _, st => match resTs tb st rs with
  | some ts => resOk ts r
  | none => False
 | _, _, _ => False
theorem fnB_prog (hT : TabOk P tb) (hm : P.follows .mixedOrders = true) (hB : BldOk P tB tU fW fS) {f : FuncId} (fn : Func) {args : List T} {r : T} {x rest : Code} {i1 : Nat} {oA : Oper} {d : Nat} (hf : P.funcs[f]? = some fn) (hb : (fn.name == "runtime.NumGoroutine" || fn.body.isNone) = false)
  (hbody : bodyOf fn = .seq x (.seq (.region i1 #[oA] false) rest)) (hA : oA.op = .alloc tB) (hAd : oA.dst = some d) (hAg : oA.guard = none) (hz : ((P.info? tB).bind fun i => i.zero.map Value.cells) = some #[.pointer none, .slice none 0 0]) (hn : Nat.ble args.length fn.ntmps = true)
  (h : aCode P X tb x (fun e st1 => e = .normal ∧ ∀ B, bCode P X tb fW fS B rest (endB tb fn.results.toList r) (some []) (st1.put (some d) (bPtr B))) (St.head fn.ntmps args)) : Fn P X f args r := by
 cases hc : fn.body with
 | none => rw [hc] at hb; simp at hb
 | some c =>
  have hbd : bodyOf fn = c := by unfold bodyOf; rw [hc]
  rw [hbd] at hbody
  subst hbody
  refine ⟨enter_of (by rw [hf, Option.map_some, hb]), fun w L vs hE hL hargs => ?_⟩
  have hn' := Nat.le_of_ble_eq_true hn
  have hvl := hargs.length
  have hd : Hd P X w.heap.size (fun _ => False) (St.head fn.ntmps args) { tmps := vs.toArray ++ Array.replicate (fn.ntmps - vs.toArray.size) undef, defers := [] } w ⟨L, fun _ => (0, 0), fun _ => undef⟩ := by
   refine ⟨by simp [St.head]; omega, fun t => ?_, ⟨fun hi => (by cases hi), fun hi => (by cases hi), fun hi => (by cases hi), fun hi => (by cases hi), fun hi => (by cases hi), fun hi => (by cases hi), fun hi => (by cases hi), fun hi => (by cases hi), fun hi => (by cases hi), hL, fun hi => (by cases hi), fun hi => (by cases hi)⟩, hE, Nat.le_refl _⟩
   have := argsE_get 0 t hargs
   rw [if_neg (by omega), Nat.sub_zero] at this
   refine Eq.mpr ?_ this
   congr 1
   show ((vs.toArray ++ Array.replicate (fn.ntmps - vs.toArray.size) undef).getD t undef) = _
   rw [Array.getD_eq_getD_getElem?, List.getD_eq_getElem?_getD]
   by_cases ht : t < vs.length
   ·rw [Array.getElem?_append_left (by simpa using ht)]; simp
   ·rw [Array.getElem?_append_right (by simpa using ht), List.getElem?_eq_none (by omega)]
    by_cases h2 : t - vs.toArray.size < fn.ntmps - vs.toArray.size
    ·rw [Array.getElem?_replicate, if_pos h2]; rfl
    ·rw [Array.getElem?_replicate, if_neg h2]
  have hw := code_wp hT hm x X ⟨fun _ h => h, fun _ h => h⟩ w.heap.size fn.ntmps (fun _ => False) Fence.wide 1 (.inl rfl) (fun _ => True) (fun _ _ => trivial) _ _ _ w _ (fun ch st h => by cases h.1) (fun l hl => by cases hl) h hd rfl
  refine callsIn_wide.1 (callsIn_of_wp_marks (n := 1) hf hc trivial (wpIn_seq (wpIn_mono hw ?_)))
  rintro e a1 w1 ⟨st1, g1, ⟨rfl, q1⟩, q2, q3, q4, q5, ms, q6, q7⟩
  rw [List.append_nil] at q6
  refine wpIn_seq (wpIn_region ?_)
  obtain ⟨i, z1, hz2⟩ := Option.bind_eq_some_iff.1 hz
  obtain ⟨v, z2, hvc⟩ := Option.map_eq_some_iff.1 hz2
  have hrun : (execOp a1.eval oA).run P w1 = .ok (.value (.pointer (some ⟨w1.heap.size, 0, none⟩))) (w1.alloc (.cells #[.pointer none, .slice none 0 0] tB)) := by
   unfold execOp
   simp only [hA, Instr.alloc, Sem.run_bind, zeroValue, typeInfo, run_program, Result.andThen_ok, z1, z2, Sem.run_pure, newVar, newRow, run_newObj, hvc]
   rfl
  refine op_run (F := Fence.wide) (n := 1) (i := 0) (r := []) (o := oA) (ops := #[oA]) (.inl rfl) rfl hAg (by rw [hA]; intro c h; cases h) hrun ?_
  rw [hAd]
  have hbel : Below w1.heap.size w1 (w1.alloc (.cells #[.pointer none, .slice none 0 0] tB)) := below_new w1 _
  obtain ⟨d1, d2, _⟩ := q2.below (N := fn.ntmps) hbel (Same.of_below hbel) .inl (fun {b o} hl' => by obtain ⟨u, hu⟩ := q2.mm.Lc hl'; exact ⟨u, cell_below hu hbel⟩)
  have hnew : (w1.alloc (.cells #[.pointer none, .slice none 0 0] tB)).heap[w1.heap.size]? = some (.cells #[.pointer none, .slice none 0 0] tB (0, 0)) := heap_alloc_new w1 _
  have hlt1 := (Array.getElem?_eq_some_iff.1 hnew).1
  have hzk : ∀ {k}, zoneB (some []) w1.heap.size (.slice none 0 0) k → k = w1.heap.size := fun {k} hk => by
   rcases hk.2 with h1 | h1
   ·exact h1
   ·cases h1
  have hR : RunBE P X tB tU w1.heap.size w.heap.size fn.ntmps w ⟨L, fun _ => (0, 0), fun _ => undef⟩ (some []) (st1.put (some d) (bPtr w1.heap.size)) (a1.put (some d) (.pointer (some ⟨w1.heap.size, 0, none⟩))) (w1.alloc (.cells #[.pointer none, .slice none 0 0] tB)) := by
   refine RunBE.put ⟨.slice none 0 0, g1, ms, fun l hl => ?_, ⟨q3.upd.size, hlt1⟩, d1.plus (fun k hk => by rw [hzk hk]; exact hlt1) (fun i hi hk => by have h1 := q2.mm.lt hi; have h2 : (g1.ρ i).1 = w1.heap.size := hzk hk; omega) (fun key e b hk' hb hk => by
    obtain ⟨n, vals, o1, _⟩ := q2.mm.own hk'
    have h1 := (o1.lt b hb).2; have h2 : b = w1.heap.size := hzk hk; omega), fun {k o} hl hk => by have h1 := q2.mm.Llt hl; have h2 : k = w1.heap.size := hzk hk; omega, q3.trans d2, q4, q6, ⟨q7.1, fun r hr => ⟨(q7.2 r hr).1, ?_⟩⟩⟩ (some d) (t := bPtr w1.heap.size) (fun _ _ => rfl)
   ·cases hl
    exact ⟨⟨_, hnew, .inl rfl⟩, World.ownsRow_nil _ _ _ _, fun _ => rfl⟩
   ·rw [hbel.block r (Array.getElem?_eq_some_iff.1 (q7.2 r hr).2).1]
    exact (q7.2 r hr).2
  refine wpIn_mono (b_wp hT hm hB hE (Nat.le_refl _) rest _ _ _ _ _ (fun ch m st h => h.elim) (q1 w1.heap.size) hR) ?_
  rintro e a' w' ⟨m', st', p1, v', g', ms', hr'⟩
  have fin : (match resTs tb st' fn.results.toList with | some ts => resOk ts r | none => False) → LeavesInM Fence.wide 1 P fn a'.tmps (fun e w' => ∃ v L', e = .returned v ∧ Below w.heap.size w w' ∧ Same L w L' w' ∧ (∀ {b o}, L' b o → L b o ∨ w.heap.size ≤ b) ∧ (∀ {b o}, L' b o → ∃ u, w'.cell? ⟨b, o, none⟩ = some u) ∧ RepT P w' ⟨L', fun _ => (0, 0), fun _ => undef⟩ r v) a'.defers .returning w' := fun hr => by
   split at hr
   ·rename_i ts hts
    rw [hr'.df]
    refine leaves_marks hT hE ms' st' a' w' g' hr'.hd.minus hr'.mo hts hr fun v w2 hu hd2 hrv hp => ?_
    have hu1 := hr'.stp.upd
    refine ⟨v, g'.L, rfl, ⟨hu.os.trans hu1.os, hu.tape.trans hu1.tape, hu.output.trans hu1.output, Nat.le_trans hu1.size hu.size, fun k hk => ?_⟩, ⟨fun b o u h1 h2 => ?_, fun k o h1 h2 => (hu.block k (Array.getElem?_eq_some_iff.1 (hr'.stp.same.m k o h1 h2)).1 (by have := (Array.getElem?_eq_some_iff.1 h1).1; omega)).trans (hr'.stp.same.m k o h1 h2)⟩, fun {b o} h => (hr'.stp.newL h).imp id And.left, hd2.mm.Lc, RepT.pure (g := g') (g' := ⟨g'.L, fun _ => (0, 0), fun _ => undef⟩) (w' := w2) hp (Same.refl _ _) hrv⟩
    ·rw [hu.block k (Nat.lt_of_lt_of_le hk hu1.size) (by omega)]
     exact hu1.block k hk (by rintro (h | h); exact h; omega)
    ·obtain ⟨h3, h4⟩ := hr'.stp.same.c b o u h1 h2
     have hbl := World.block_lt_of_cell? w _ h2
     exact ⟨h3, hu.cell h4 (by dsimp only at *; omega)⟩
   ·exact hr.elim
  cases e with
  | normal => exact fin p1
  | ret => exact fin p1
  | exit id => exact p1.elim
  | goto l => exact p1.elim
  | panic ch => exact p1.elim
  | outgrown => exact p1.elim
end
end Go.Proofs.YtiafggoaedifdaaGreatDoor
/- strings.Builder, where a variable is one: what its methods do. Conditions: at most 10^9 bytes. -/
namespace Go.Proofs.YtiafggoaedifdaaGreatDoor.Bld
open Go.RowKit
set_option linter.unusedVariables false
theorem bldInfo : (Tryz.prog.info? 90).map (·.size) = some 2 := by kernel_rfl
theorem bldLies : liesAt Tryz.prog Tryz.prog.depth 90 (2 / Tryz.prog.cellsOf 90) 0 90 1 = true := by kernel_rfl
set_option maxHeartbeats 100000000 in
set_option maxRecDepth 100000 in
theorem check_used (B : Nat) (w : World) (h0 : w.cell? ⟨B, 0, none⟩ = some (.pointer (some ⟨B, 0, none⟩))) :
  Calls Tryz.prog 93 #[.pointer (some ⟨B, 0, none⟩)] w fun e w' => e = .returned (.tuple #[]) ∧ w = w' := by
 obtain ⟨j, hj, _⟩ := Option.map_eq_some_iff.1 bldInfo
 have hne := Lib.run_neq_ptr_same (P := Tryz.prog) w ⟨B, 0, none⟩ Tryz.underlying88 hj
 go_enter Tryz.func93, Tryz.ntmps93
 go_wp2
 go_end0
 exact ⟨rfl, rfl⟩
set_option maxHeartbeats 100000000 in
set_option maxRecDepth 100000 in
theorem check_fresh (B : Nat) (w : World) (h0 : w.cell? ⟨B, 0, none⟩ = some (.pointer none)) (hsh : w.shape? B = some (90, 2)) (hfz : w.frozen? ⟨B, 0, none⟩ = false) :
  Calls Tryz.prog 93 #[.pointer (some ⟨B, 0, none⟩)] w fun e w' => e = .returned (.tuple #[]) ∧ w.setCell ⟨B, 0, none⟩ (.pointer (some ⟨B, 0, none⟩)) = w' := by
 obtain ⟨j, hj, hjs⟩ := Option.map_eq_some_iff.1 bldInfo
 have h1 := Lib.run_to_unsafe (P := Tryz.prog) w ⟨B, 0, none⟩ Tryz.underlying88 Tryz.underlying133 hj (by rw [hjs]; decide) hsh (show 0 < 2 by decide)
 have h2 := Lib.run_from_unsafe (P := Tryz.prog) w ⟨B, 0, none⟩ Tryz.underlying133 Tryz.underlying88 hj hsh bldLies
 have h3 := @run_callFunc_extern Tryz.prog 121 _ Extern.AbiNoEscape.same Tryz.func121 (by kernel_rfl) (by kernel_rfl) (by kernel_rfl) (by kernel_rfl)
 have h4 := fun x => Lib.run_noEscape (P := Tryz.prog) w x
 go_enter Tryz.func93, Tryz.ntmps93
 go_wp2
 go_end0
 exact ⟨rfl, rfl⟩
theorem check_calls {w : World} {B : Nat} {v : Value} {l : List UInt8} (h : BU 90 5 w B v l) :
  Calls Tryz.prog 93 #[.pointer (some ⟨B, 0, none⟩)] w fun e w' => e = .returned (.tuple #[]) ∧ (w'.heap[B]? = some (.cells #[.pointer (some ⟨B, 0, none⟩), v] 90 (0, 0)) ∧ w'.ownsRow (B + 1) 5 1 v l.length (Lib.byteCells l)) ∧ Upd (fun k => k = B) w w' ∧ w'.heap.size = w.heap.size := by
 obtain ⟨⟨p, h1, h2⟩, h3, _⟩ := h
 rcases h2 with rfl | rfl
 ·refine (check_fresh B w (cel h1 0 rfl) (by simp [World.shape?, h1]) (frz h1 0)).mono ?_
  rintro e w' ⟨rfl, rfl⟩
  have hu := Upd.of_grown (S := fun k => k = B) (set_grown w B 0 (.pointer (some ⟨B, 0, none⟩))) rfl
  exact ⟨rfl, ⟨set_blk h1 0 _, ownsRow_upd h3 hu (fun k hk => by have := (h3.lt k hk).1; omega)⟩, hu, by simp [World.setCell]⟩
 ·refine (check_used B w (cel h1 0 rfl)).mono ?_
  rintro e w' ⟨rfl, rfl⟩
  exact ⟨rfl, ⟨h1, h3⟩, Upd.refl _ _, rfl⟩
theorem bytesInfo : (Tryz.prog.info? 5).map (fun i => (i.zero, i.size, i.bytes)) = some (some (.int .u8 0), 1, 1) := by kernel_rfl
theorem str_at {P : Program} (w : World) (base : Nat) (t u ty e : TypeId) (i : TypeInfo) (ht : P.underlying t = some (.slice e)) (hu : P.underlying u = some .string) (hi : P.info? e = some i) (hz : i.zero = some (.int .u8 0)) (hsize : i.size = 1) (hby : i.bytes = 1)
  (v : Value) (n : Nat) (xs : List Value) (hown : w.ownsRow base e 1 v n xs) (s : ByteArray) (h63 : n + s.size ≤ 1000000000) (hbase : base ≤ w.heap.size) :
  ∃ v' w', (Builtin.append_ #[t, u] ty #[v, .string s]).run P w = .ok v' w' ∧ w'.ownsRow base e 1 v' (n + s.size) (xs ++ Lib.strCells s) ∧ w.grownBy w' v.ownBlock ∧ (v'.ownBlock = v.ownBlock ∨ ∀ k, v'.ownBlock = some k → w.heap.size ≤ k) := by
 obtain ⟨v', w', r1, r2, r3, r4⟩ := Lib.run_append_own_string (P := P) w base t u ty e i ht hu hi hz hsize hby v n xs hown s (by unfold maxLen; omega) (by omega) hbase
 refine ⟨v', w', r1, r2, r3, ?_⟩
 rcases hown.2 with ⟨rfl, rfl⟩ | ⟨g, cap, cur, rfl, hbg, hg, hnc, hcm, hcs, htake⟩
 ·have hx : xs = [] := List.eq_nil_of_length_eq_zero (by simpa using hown.1)
  subst hx
  obtain ⟨v2, w2, s1, s2, _⟩ := Lib.run_append_own_string (P := P) w w.heap.size t u ty e i ht hu hi hz hsize hby (.slice none 0 0) 0 [] (World.ownsRow_nil _ _ _ _) s (by unfold maxLen; omega) (by omega) (Nat.le_refl _)
  rw [r1] at s1
  cases s1
  exact .inr fun k hk => (s2.lt k hk).1
 ·by_cases hroom : n + s.size ≤ cap
  ·have hr := Lib.run_append_room_string (P := P) w t u ty e i ht hu hi hsize g n cap cur hg s hroom (by omega)
   rw [r1] at hr
   cases hr
   exact .inl rfl
  ·have hr := Lib.run_append_grow_string (P := P) w t u ty e i (.int .u8 0) ht hu hi hz ⟨g, 0, none⟩ n cap xs (by rw [hsize]; simpa using hown.1) (hown.cells (g := g) rfl) s (by omega) (by omega) (by rw [hby]; exact growslice_fits (by omega) (by omega))
   rw [r1] at hr
   cases hr
   exact .inr fun k hk => by cases hk; exact Nat.le_refl _
theorem wpList_str {P : Program} {w : World} {ops : Array Oper} {rest : List Oper} {o : Oper} {a : Act} {Q : Exit → Act → World → Prop} (hgd : o.guard = none) (sl x : Operand) (t u : TypeId)
  (ho : o.op = .call { callee := .builtin .append, args := #[sl, x], argTypes := #[t, u] })
  (base : Nat) (e : TypeId) (i : TypeInfo) (ht : P.underlying t = some (.slice e)) (hu : P.underlying u = some .string) (hi : P.info? e = some i) (hz : i.zero = some (.int .u8 0)) (hsize : i.size = 1) (hby : i.bytes = 1)
  (v : Value) (n : Nat) (xs : List Value) (hs : a.eval sl = v) (hown : w.ownsRow base e 1 v n xs) (s : ByteArray) (hx : a.eval x = .string s) (h63 : n + s.size ≤ 1000000000) (hbase : base ≤ w.heap.size)
  (h : ∀ v' w', w'.ownsRow base e 1 v' (n + s.size) (xs ++ Lib.strCells s) → w.grownBy w' v.ownBlock → (v'.ownBlock = v.ownBlock ∨ ∀ k, v'.ownBlock = some k → w.heap.size ≤ k) → wpList P ops Q rest (a.put o.dst v') w') : wpList P ops Q (o :: rest) a w := by
 refine wpList_plain hgd fun K hK => ?_
 obtain ⟨v', w', hr, h2, h3, h4⟩ := str_at (P := P) w base t u o.type e i ht hu hi hz hsize hby v n xs hown s h63 hbase
 unfold Oper.wp execOp
 simp only [ho, resolve, invoke, builtin, Sem.run_bind, Sem.run_pure, Result.andThen_ok, List.map_toArray, List.map_cons, List.map_nil, hs, hx, hr]
 exact hK _ _ (h v' w' h2 h3 h4)
set_option maxHeartbeats 2000000 in
set_option maxRecDepth 100000 in
theorem wstring {w : World} {B : Nat} {v : Value} {l : List UInt8} (t : ByteArray) (h : BU 90 5 w B v l) (hB : B < w.heap.size) (ht : l ++ t.data.toList ≠ []) (hl : (l ++ t.data.toList).length ≤ 1000000000) :
  Calls Tryz.prog 63 #[.pointer (some ⟨B, 0, none⟩), .string t] w fun e w' => (∃ v, e = .returned v) ∧ (∃ v', BU 90 5 w' B v' (l ++ t.data.toList) ∧ (v'.ownBlock = v.ownBlock ∨ ∀ k, v'.ownBlock = some k → w.heap.size ≤ k)) ∧ Upd (bZ B v) w w' := by
 obtain ⟨i0, hi, hz0, hz1, hz2⟩ := info_parts bytesInfo
 have hsz0 : l.length + t.size ≤ 1000000000 := by rw [List.length_append, Txt.size_list] at hl; exact hl
 go_enter Tryz.func63, Tryz.ntmps63
 go_wp2_with fail
 refine (check_calls h).mono ?_
 rintro e w1 ⟨rfl, ⟨h1, h2⟩, hb, hsz⟩
 have c3 : w1.cell? ⟨B, 0, none⟩ = some (.pointer (some ⟨B, 0, none⟩)) := cel h1 0 rfl
 have c4 : w1.cell? ⟨B, 1, none⟩ = some v := cel h1 1 rfl
 have hB1 : B < w1.heap.size := by rw [hsz]; exact hB
 have HTN := Aside.mk (And.intro ht (And.intro hsz0 hsz))
 clear ht hl hsz0 hsz
 have H1 := Aside.mk h1
 have H2 := Aside.mk h2
 have HB := Aside.mk hb
 clear h1 h2 hb h
 go_wp2_with (at_builtin; refine wpList_str rfl _ _ 73 9 rfl (B + 1) 5 i0 Tryz.underlying73 Tryz.underlying9 hi hz0 hz1 hz2 _ _ _ rfl H2.out t rfl (by exact HTN.out.2.1) (by omega) ?_)
 intro v' w6 hown hgrow hpl
 obtain ⟨A', cap', rfl⟩ : ∃ A c, v' = .slice A (l.length + t.size) c := by
  rcases hown.2 with ⟨h0, h1⟩ | ⟨g, cap, _, h0, _⟩
  ·exact ⟨none, 0, by rw [h0, h1]⟩
  ·exact ⟨_, cap, h0⟩
 have hne : v.ownBlock ≠ some B := fun e => by have := (H2.out.lt B e).1; omega
 have hb6 := blk_grown H1.out hgrow (fun e => hne e.symm)
 have d4 : w6.cell? ⟨B, 1, none⟩ = some v := cel hb6 1 rfl
 have f4 := frz hb6 1
 have HO := Aside.mk hown
 have HG := Aside.mk hgrow
 have HB6 := Aside.mk hb6
 have HP := Aside.mk hpl
 clear hown hgrow hb6 c3 c4 hi hpl
 go_wp2
 go_ret2
 have ho := HO.out
 have hus := Upd.of_grown (S := fun k => k = B) (set_grown w6 B 1 (.slice A' (l.length + t.size) cap')) rfl
 refine ⟨⟨_, rfl⟩, ⟨.slice A' (l.length + t.size) cap', ⟨⟨_, set_blk HB6.out 1 _, .inr rfl⟩, ?_, fun h => absurd h HTN.out.1⟩, ?_⟩, ?_⟩
 ·refine ownsRow_upd ?_ hus (fun k hk => by have := (HO.out.lt k hk).1; omega)
  rw [List.length_append, Txt.size_list, Lib.byteCells_append]
  exact ho
 ·rw [← HTN.out.2.2]; exact HP.out
 ·refine (HB.out.mono fun k hk => .inl hk).trans ((⟨HG.out.os, HG.out.tape, HG.out.output, HG.out.size, fun k hk hn => HG.out.block k hk (fun e => hn (.inr (by first | exact e | exact e.symm)))⟩ : Upd (bZ B v) w1 w6).trans (hus.mono fun k hk => .inl hk))
theorem freeze_upd (w : World) (g B n cap m : Nat) : Upd (bZ B (.slice (some ⟨g, 0, none⟩) n cap)) w (w.drew.freeze ⟨g, 0, none⟩ m) := by
 unfold World.freeze
 split
 ·exact ⟨rfl, rfl, rfl, Nat.le_refl _, fun _ _ _ => rfl⟩
 ·refine ⟨rfl, rfl, rfl, by simp, fun k hk hn => ?_⟩
  have hkg : g ≠ k := fun e => hn (.inr (by rw [e]; rfl))
  simp [Array.getElem?_modify, hkg]
  rfl
set_option maxHeartbeats 2000000 in
set_option maxRecDepth 100000 in
theorem text_of {w : World} {B : Nat} {v : Value} {l : List UInt8} (h : BU 90 5 w B v l) (hB : B < w.heap.size) :
  Calls Tryz.prog 65 #[.pointer (some ⟨B, 0, none⟩)] w fun e w' => e = .returned (.string ⟨l.toArray⟩) ∧ Upd (bZ B v) w w' := by
 obtain ⟨⟨p, h1, _⟩, h3, h4⟩ := h
 have hcell : ∀ W : World, W.heap = w.heap → W.cell? ⟨B, 1, none⟩ = some v := fun W e => by
  have := cel h1 1 (v := v) rfl
  simpa [World.cell?, e] using this
 by_cases h0 : l = []
 ·obtain rfl := h4 h0
  subst h0
  have hUN := fun W q => Lib.run_unsafeString_none (P := Tryz.prog) W 143 3 9 q
  have c1 : w.drew.cell? ⟨B, 1, none⟩ = some (.slice none 0 0) := hcell _ rfl
  have hSD : ∀ W : World, (Builtin.unsafeSliceData_ #[73] 143 #[.slice none 0 0]).run Tryz.prog W = .ok (.pointer none) W := fun W => rfl
  clear hcell h1 h3 h4
  go_enter Tryz.func65, Tryz.ntmps65
  go_wp2
  go_region
  all_goals (go_wp2; go_ret; exact ⟨rfl, ⟨rfl, rfl, rfl, Nat.le_refl _, fun _ _ _ => rfl⟩⟩)
 ·have hl0 : l.length ≠ 0 := by simpa using h0
  obtain ⟨g, cap, cur, rfl, hbg, hg, hnc, hcm, hcs, htake⟩ : ∃ g cap cur, v = .slice (some ⟨g, 0, none⟩) l.length cap ∧ B + 1 ≤ g ∧ w.heap[g]? = some (.cells cur 5 (0, 0)) ∧ l.length ≤ cap ∧ cap ≤ maxLen ∧ cur.size = cap * 1 ∧ cur.toList.take (l.length * 1) = Lib.byteCells l := by
   rcases h3.2 with ⟨_, hz⟩ | ⟨g, cap, cur, hv, r⟩
   ·exact absurd hz hl0
   ·exact ⟨g, cap, cur, hv, r⟩
  have c1 : w.drew.cell? ⟨B, 1, none⟩ = some (.slice (some ⟨g, 0, none⟩) l.length cap) := hcell _ rfl
  have hSD : (Builtin.unsafeSliceData_ #[73] 143 #[.slice (some ⟨g, 0, none⟩) l.length cap]).run Tryz.prog w.drew = .ok (.pointer (some ⟨g, 0, none⟩)) w.drew :=
   Lib.run_unsafeSliceData_row _ _ _ _ _ _ (by omega)
  have hUS : (Builtin.unsafeString_ #[143, 3] 9 #[.pointer (some ⟨g, 0, none⟩), .int .i64 l.length]).run Tryz.prog w.drew = .ok (.string ⟨l.toArray⟩) (w.drew.freeze ⟨g, 0, none⟩ l.length) := by
   refine Lib.run_unsafeString_row w.drew 143 3 9 5 Tryz.underlying143 (by kernel_rfl) g cur.size (by have hg' : w.drew.heap[g]? = some (.cells cur 5 (0, 0)) := hg; simp [World.shape?, hg']) l h0 (by omega) (by unfold maxLen at hcm; omega) ?_
   intro j x hx
   have := h3.cells (g := g) rfl j (.int .u8 x.toNat) (by simp [Lib.byteCells, hx])
   exact this
  clear hcell h1 h3 h4 hg htake hcs hnc hcm
  go_enter Tryz.func65, Tryz.ntmps65
  go_wp2
  go_region
  all_goals (go_wp2; go_ret; exact ⟨rfl, freeze_upd w g B _ cap l.length⟩)
theorem bldOk : BldOk Tryz.prog 90 5 63 65 := ⟨enter_of (by kernel_rfl), enter_of (by kernel_rfl), wstring, text_of, by decide⟩
end Go.Proofs.YtiafggoaedifdaaGreatDoor.Bld
/- filt, walked: values printed. Conditions: texts of at most 10^6 bytes. -/
namespace Go.Proofs.YtiafggoaedifdaaGreatDoor.Fi
open Go.RowKit Go.Shelf Go.Lib Fl
set_option linter.unusedVariables false
def encB (b : UInt8) : List V := [.int .u8 b.toNat]
theorem plain_fn {X : En} (b : UInt8) : Fn Tryz.prog X 50 [.v (.int .u8 b.toNat)] (.v (.bool (Esc.plainB b))) :=
 Fn.of_plain (enter_of (by kernel_rfl)) rfl fun w L vs hE ha => by
  obtain ⟨v, rfl, h⟩ := one_arg ha
  rw [show v = _ from h]
  refine (Esc.plain_calls b w).mono ?_
  rintro e w' ⟨rfl, rfl⟩
  exact ⟨rfl, Below.refl _ _⟩
theorem isOne_fn {X : En} (b : UInt8) (l : List UInt8) (hl : l.length ≤ 1000) : Fn Tryz.prog X 51 [.v (.int .u8 b.toNat), .v (.sl (l.map encB))] (.v (.bool (l.contains b))) := by
 refine fn_prog tabOk mixed Tryz.f51 Tryz.func51 (by kernel_rfl) (by kernel_rfl) ?_
 conv => whnf
 refine ⟨Nat, fun i => ⟨17, [(0, .v (.int .u8 b.toNat)), (7, .v (.sl (l.map encB))), (8, .v (.int .i64 ((l.map encB).length : Nat))), (9, .v (.int .i64 (i : Nat)))], [], []⟩, fun i => i ≤ l.length ∧ ∀ c ∈ l.take i, c ≠ b, fun i => l.length - i, ⟨0, [], ⟨by omega, by simp⟩, ?_⟩, fun i ⟨hi, ha⟩ => ?_⟩
 ·(focus (repeat' first|exact trivial|exact rfl|exact .inl rfl|exact .inr ⟨rfl,rfl⟩|refine And.intro ?_ ?_))
 conv => whnf
 refine ⟨rfl, cmp_split (fun h => ?_) (fun h => ?_)⟩
 ·rw [List.length_map] at h
  have hil : i < l.length := by omega
  conv => whnf
  refine st_idx hil rfl ?_
  conv => whnf
  refine ⟨rfl, cmp_split (fun h2 => ?_) (fun h2 => ?_)⟩
  ·conv => whnf
   have hbl : b = l[i] := UInt8.toNat_inj.1 (by omega)
   exact ⟨.inl (congrArg V.bool (by rw [List.contains_iff_mem.2 (by rw [hbl]; exact List.getElem_mem hil)])), rfl⟩
  ·conv => whnf
   refine ⟨rfl, st_succ (by omega) ?_⟩
   conv => whnf
   refine ⟨i + 1, [], ⟨by omega, fun c hc => ?_⟩, by dsimp only; omega, ?_⟩
   ·rw [List.take_succ_eq_append_getElem hil] at hc
    rcases List.mem_append.1 hc with hc | hc
    ·exact ha c hc
    ·rw [List.mem_singleton.1 hc]; rintro rfl; exact h2 rfl
   ·(focus (repeat' first|exact trivial|exact rfl|exact .inl rfl|exact .inr ⟨rfl,rfl⟩|refine And.intro ?_ ?_))
 ·rw [List.length_map] at h
  conv => whnf
  rw [List.take_of_length_le (by omega)] at ha
  refine ⟨.inl (congrArg V.bool ?_), rfl⟩
  cases hq : l.contains b with
  | false => rfl
  | true => exact absurd rfl (ha b (List.contains_iff_mem.1 hq))
theorem rule_fn {X : En} (k : Nat) (b : UInt8) : Fn Tryz.prog X 49 [.v (.int .i64 (k : Nat)), .v (.int .u8 b.toNat)] (.tup [.v (.bool (filR k b).1), .v (.bool (filR k b).2)]) := by
 refine fn_prog tabOk mixed Tryz.f49 Tryz.func49 (by kernel_rfl) (by kernel_rfl) ?_
 conv => whnf
 refine st_callB (plain_fn b) ⟨.inl rfl, trivial⟩ rfl (fun h => ?_) (fun h => ?_)
 ·conv => whnf
  refine st_callB (isOne_fn b [92, 42, 40, 41] (by decide)) ⟨.inl rfl, rfl, trivial⟩ rfl (fun h2 => ?_) (fun h2 => ?_)
  all_goals
   conv => whnf
   refine ⟨⟨.inl rfl, .inl (congrArg V.bool ?_), trivial⟩, rfl⟩
   unfold filR
   rw [h, h2]
   rfl
 ·conv => whnf
  refine ⟨⟨.inl rfl, .inl (congrArg V.bool ?_), trivial⟩, rfl⟩
  unfold filR
  rw [h]
  rfl
theorem escPrinted_fn {X : En} (s : ByteArray) (hs : s.size ≤ 1000000) : Fn Tryz.prog X 48 [.v (.str s), .fn 49 []] (.v (.str (bt' (escF (bl s))))) :=
 Fn.of_plain (enter_of (by kernel_rfl)) rfl fun w L vs hE ha => by
  obtain ⟨v, v', rfl, h, cs, rfl, h'⟩ := two_args ha
  rw [show v = .string s from h, show cs = #[] from Array.toList_inj.1 (show cs.toList = [] from h')]
  refine (Esc.printed_calls filR 49 #[] (enters_of Tryz.func49 (by kernel_rfl) rfl) s hs w (fun W k b hb hk => ?_)).mono ?_
  ·refine (Fn.use (X := noX) (rule_fn k b) trivial (vs := [.int .i64 (k : Nat), .int .u8 b.toNat]) ⟨_, _, rfl, rfl, _, _, rfl, rfl, rfl⟩).mono ?_
   rintro e w' ⟨v, L', rfl, hb', cs, rfl, u1, us, e1, h1, u2, us2, rfl, h2, h3⟩
   rw [show us2 = [] from h3, show u1 = _ from h1, show u2 = _ from h2] at e1
   rw [show cs = #[.bool (filR k b).1, .bool (filR k b).2] from Array.toList_inj.1 e1]
   exact ⟨rfl, hb'⟩
  ·rintro e w' ⟨rfl, hb⟩
   rw [out_flat]
   exact ⟨rfl, hb⟩
theorem escFilter_fn {X : En} (s : ByteArray) (hs : s.size ≤ 1000000) : Fn Tryz.prog X 26 [.v (.str s)] (.v (.str (bt' (escF (bl s))))) := by
 refine fn_prog tabOk mixed Tryz.f26 Tryz.func26 (by kernel_rfl) (by kernel_rfl) ?_
 conv => whnf
 (refine st_call (escPrinted_fn (X := X) s hs) ?_ rfl rfl ?_; (focus (repeat' first|exact trivial|exact rfl|exact .inl rfl|exact .inr ⟨rfl,rfl⟩|refine And.intro ?_ ?_)); conv => whnf)
 exact ⟨.inl rfl, rfl⟩
end Go.Proofs.YtiafggoaedifdaaGreatDoor.Fi
