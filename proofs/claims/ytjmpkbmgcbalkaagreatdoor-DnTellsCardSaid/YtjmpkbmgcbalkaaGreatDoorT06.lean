/- Several texts, one behind the other. The walk without memory is right: a region whose order is drawn may be walked in one order, if what is taken ahead of others only reads what these leave alone. Whatever program. A range over a function, in line: the loop's statement by the walk of the function that is ranged over, a call of yield by the walk of the body. Laws of whatever program; conditions: the loop's record lies where it was laid. The walk without memory: pieces of code, loops, a function's contract out of the walk of its body. Whatever program. -/
import Derived.Test.YtjmpkbmgcbalkaaGreatDoorT05
import Derived.OrdersIn
import Derived.RangeFuncNested
import Derived.RangeFuncBound
import Derived.RangeFuncCalls
import Derived.RangeFuncLeaves
import Derived.Shelf.Abstract
import Derived.WalkKit
import Derived.OwnWalkIn
import Derived.TacticsInMore
import Derived.LoopNIn
import Derived.LoopIn
import Derived.Below
import Derived.Sort.LoopGhostIn
/- The walk without memory is right: a region whose order is drawn may be walked in one order, if what is taken ahead of others only reads what these leave alone. Whatever program. -/
namespace Go.Proofs.YtjmpkbmgcbalkaaGreatDoor
open Go.RowKit
set_option linter.unusedVariables false
variable {P : Program} {X : En} {base N : Nat} {S : Nat → Prop} {tb : Tab} {F : Fence} {n : Nat} {ops : Array Oper} {Q : Exit → Act → World → Prop}
def quietOp : Op → Bool
  | .move _ => true
  | .assign _ => true
  | .pick _ _ _ => true
  | .build _ _ => true
  | .load _ _ => true
  | .fieldAddr _ _ _ => true
  | .field _ _ _ => true
  | .indexAddr _ _ _ => true
  | .index _ _ _ => true
  | .slice _ _ _ _ _ => true
  | .extract _ _ => true
  | .binOp _ _ _ _ _ => true
  | .unOp _ _ _ => true
  | .convert _ _ _ => true
  | .makeInterface _ _ => true
  | .makeFunc _ _ _ => true
  | .nilCheck _ => true
  | .call c => match c.callee with
    | .builtin .len => true
    | .builtin .min => true
    | .builtin .max => true
    | _ => false
  | _ => false
theorem semOp_ranQ (hT : TabOk P tb) {C : Con} {o : Oper} {a : Act} {w : World} {g : Gh} {st : St} {K : T → St → Prop} (hq : quietOp o.op = true) (hd : Hd P X base S st a w g) (hs : semOp tb C o st K) : RanQ P st o a w g K := by
  obtain ⟨op, ho⟩ : ∃ op, o.op = op := ⟨_, rfl⟩
  cases op with
  | move x => exact ran_move (.inl ho) hd hs
  | assign x => exact ran_move (.inr ho) hd hs
  | pick c x y => exact ran_pick ho hd hs
  | build t ps => exact ran_build hT ho hd hs
  | load t x => exact ran_load hT ho hd hs
  | fieldAddr s x f => exact ran_fieldAddr hT ho hd hs
  | field s x f => exact ran_field hT ho hd hs
  | indexAddr t x ix => exact ran_indexAddr hT ho hd hs
  | index t x ix => exact ran_index hT ho hd hs
  | slice t x lo hi mx => exact ran_slice hT ho hd hs
  | extract x i => exact ran_extract ho hd hs
  | binOp op t x y t' => exact ran_binOp hT ho hd hs
  | unOp op t x => exact ran_unOp ho hd hs
  | convert s t x => exact ran_convert hT ho hd hs
  | makeInterface t x => exact ran_makeInterface hT ho hd hs
  | makeFunc fn first captured => exact ran_makeFunc ho hd hs
  | nilCheck x => exact ran_nilCheck ho hd hs
  | call c =>
    rw [ho] at hq
    unfold quietOp at hq
    dsimp only at hq
    split at hq
    · rename_i hc; exact ran_len hT ho hc hd hs
    · rename_i hc; exact ran_min ho hc hd hs
    · rename_i hc; exact ran_max ho hc hd hs
    · cases hq
  | _ => rw [ho] at hq; cases hq
def Op.isDefer : Op → Bool
  | .defer _ => true
  | _ => false
/-- in whatever order; what is no store leaves the cells that stay -/
def AnyK (F : Fence) (n : Nat) (P : Program) (ops : Array Oper) (Q : Exit → Act → World → Prop) : Nat → Array Bool → Gh → List (Nat × Option Nat) → Act → World → Prop
  | 0, listed, _, _, a, w => Region.ready .any ops listed = [] ∧ Q .normal a w
  | fuel + 1, listed, g, lv, a, w => (Region.ready .any ops listed = [] → Q .normal a w) ∧
    ∀ i ∈ Region.ready .any ops listed, wpOpIn F n P ops Q i (fun a' w' => ∃ g' lv', (((ops[i]?).map fun o => Op.isStore o.op).getD false = false → Tame w g lv w' g' lv') ∧ AnyK F n P ops Q fuel (listed.setIfInBounds i true) g' lv' a' w') a w
theorem AnyK.any : ∀ (fuel : Nat) (listed : Array Bool) (g : Gh) (lv : List (Nat × Option Nat)) (a : Act) (w : World), AnyK F n P ops Q fuel listed g lv a w → wpAnyIn F n P .any ops Q fuel listed a w
  | 0, _, _, _, _, _, h => h
  | fuel + 1, _, _, _, _, _, h => ⟨h.1, fun i hi => wpOpIn_mono (fun a' w' ⟨g', lv', _, h'⟩ => AnyK.any fuel _ g' lv' a' w' h') (h.2 i hi)⟩
/-- one operation beside another one: whether that one's value is already there makes no difference -/
theorem wpOpIn_beside (hF : Open F) {j : Nat} {oi oj : Oper} {v : Value} (hj : ops[j]? = some oj) (hap : oi.apart ops oj = true) (hsj : ∀ cs b, oj.op ≠ .select cs b) (hdj : ∀ c, oj.op ≠ .defer c)
    (hQ : ∀ c a w, Q (.panic c) (a.put oi.dst v) w → Q (.panic c) a w) {K : Act → World → Prop} {a : Act} {w : World} (h : wpOpIn F n P ops Q j K (a.put oi.dst v) w) :
    wpOpIn F n P ops Q j (fun a' w' => (∃ u, a'.tmps = (a.put oj.dst u).tmps) ∧ K (a'.put oi.dst v) w') a w := by
  obtain ⟨h1, h2, h3⟩ := Oper.apart_spec hap
  unfold wpOpIn at *
  simp only [hj] at *
  rw [wanted_put oj a oi.dst v h1] at h
  split
  · rename_i hw
    simp only [hw, if_true] at h
    refine ⟨fun f _ => hF.fn f, ?_⟩
    have h := h.2
    rw [Oper.semAt_plain F _ _ hdj] at h ⊢
    rw [execOp_put oj hsj a oi.dst v h1] at h
    generalize (execOp a.eval oj).run P w = r at *
    cases r with
    | ok x w' =>
      cases x <;> simp only [Oper.uponIn] at h ⊢
      case value u => exact ⟨⟨u, rfl⟩, by rw [← Act.put_comm a v u h2]; exact h⟩
      case skip => exact ⟨⟨_, rfl⟩, by rw [← Act.put_comm a v undef h2]; exact h⟩
      case defer d =>
        refine ⟨⟨undef, by cases oj.dst <;> rfl⟩, ?_⟩
        rw [← Act.put_comm _ v undef h2, ← Act.put_defers]
        exact h
      case enter f args =>
        refine ⟨h.1, CallsIn.mono h.2 fun e w'' he => ?_⟩
        cases e with
        | returned u => exact ⟨⟨u, rfl⟩, by rw [← Act.put_comm a v u h2]; exact he⟩
        | panicked c => exact hQ _ _ _ he
        | outgrown => exact he
      case row row args => exact ⟨h.1, RowsIn.mono h.2 fun u w'' he => ⟨⟨u, rfl⟩, by rw [← Act.put_comm a v u h2]; exact he⟩⟩
      case round l f tmps assign body =>
        refine ⟨h.1, RoundIn.mono h.2 fun e w'' he => ?_⟩
        cases e with
        | returned u => exact ⟨⟨u, rfl⟩, by rw [← Act.put_comm a v u h2]; exact he⟩
        | panicked c => exact hQ _ _ _ he
        | outgrown => exact he
    | halt x w' =>
      cases x <;> simp only [Oper.uponIn] at h ⊢
      case panic u => exact hQ _ _ _ h
  · rename_i hw
    simp only [hw] at h
    refine ⟨fun f _ => hF.fn f, ⟨_, rfl⟩, ?_⟩
    rw [← Act.put_comm a v undef h2]
    exact h.2
/-- an operation yields a value, as long as some cells stay -/
def YQ (P : Program) (ops : Array Oper) (o : Oper) (v : Value) (cells : List ((Nat × Nat) × Value)) (g : Gh) (lv : List (Nat × Option Nat)) (a : Act) (w : World) : Prop :=
  (Region.wanted o (yielded ops a.tmps) = true ∧ (∀ p ∈ cells, Safe w g lv p.1.1 p.1.2 ∧ w.cell? ⟨p.1.1, p.1.2, none⟩ = some p.2) ∧ ∀ W : World, (∀ p ∈ cells, W.cell? ⟨p.1.1, p.1.2, none⟩ = some p.2) → (execOp a.eval o).run P W = .ok (.value v) W) ∨
  (Region.wanted o (yielded ops a.tmps) = false ∧ v = undef)
theorem YQ.wpOp (hF : Open F) {i : Nat} {o : Oper} {v : Value} {cells : List ((Nat × Nat) × Value)} {g : Gh} {lv : List (Nat × Option Nat)} {a : Act} {w : World} (hi : ops[i]? = some o) (hdf : ∀ c, o.op ≠ .defer c) (hy : YQ P ops o v cells g lv a w) {K : Act → World → Prop} (h : K (a.put o.dst v) w) : wpOpIn F n P ops Q i K a w := by
  unfold wpOpIn
  simp only [hi]
  rcases hy with ⟨hw, hc, hr⟩ | ⟨hw, rfl⟩
  · rw [if_pos hw]
    refine ⟨fun f _ => hF.fn f, ?_⟩
    rw [Oper.semAt_plain F _ _ hdf, hr w (fun p hp => (hc p hp).2)]
    exact h
  · rw [if_neg (by rw [hw]; simp)]
    exact ⟨fun f _ => hF.fn f, h⟩
theorem eval_tmps {a a' : Act} (h : a'.tmps = a.tmps) : a'.eval = a.eval := by
  funext x
  cases x <;> simp [Act.eval, h]
theorem anyK_take (hF : Open F) {i : Nat} {oi : Oper} {v : Value} {cells : List ((Nat × Nat) × Value)} (hi : ops[i]? = some oi) (hsel : ∀ (j : Nat) (o : Oper) cs b, ops[j]? = some o → o.op ≠ .select cs b) (hdef : ∀ (j : Nat) (o : Oper) c, ops[j]? = some o → o.op ≠ .defer c)
    (hQ : ∀ c a w, Q (.panic c) (a.put oi.dst v) w → Q (.panic c) a w) :
    ∀ (fuel : Nat) (listed : Array Bool) (g : Gh) (lv : List (Nat × Option Nat)) (a : Act) (w : World),
      (∀ j oj, ops[j]? = some oj → j ≠ i → listed.getD j true = false → (∀ e ∈ oj.after, Region.binds .any e = true → e.on ≠ i) → oi.apart ops oj = true ∧ (cells ≠ [] → Op.isStore oj.op = false)) →
      i ∈ Region.ready .any ops listed → YQ P ops oi v cells g lv a w →
      AnyK F n P ops Q fuel (listed.setIfInBounds i true) g lv (a.put oi.dst v) w → AnyK F n P ops Q (fuel + 1) listed g lv a w := by
  intro fuel
  induction fuel with
  | zero =>
    intro listed g lv a w _ hr hy H
    refine ⟨fun h => (by rw [h] at hr; cases hr), fun j hj => ?_⟩
    by_cases hji : j = i
    · subst hji; exact hy.wpOp hF hi (hdef j oi · hi) ⟨g, lv, fun _ => Tame.refl _ _ _, H⟩
    · have := ready_mono hj hji
      rw [H.1] at this
      cases this
  | succ fuel ih =>
    intro listed g lv a w hfree hr hy H
    refine ⟨fun h => (by rw [h] at hr; cases hr), fun j hj => ?_⟩
    by_cases hji : j = i
    · subst hji; exact hy.wpOp hF hi (hdef j oi · hi) ⟨g, lv, fun _ => Tame.refl _ _ _, H⟩
    · have h1 := H.2 j (ready_mono hj hji)
      obtain ⟨hjun, oj, hoj, hall⟩ := mem_ready.1 hj
      have hnot : ∀ e ∈ oj.after, Region.binds .any e = true → e.on ≠ i := fun e he hb heq => by
        have h1 := hall e he hb
        have h0 := (mem_ready.1 hr).1
        rw [heq] at h1
        rcases Nat.lt_or_ge i listed.size with h' | h'
        · simp [h'] at h0 h1; rw [h0] at h1; cases h1
        · simp [Array.getElem?_eq_none h'] at h1
      obtain ⟨hap, hst⟩ := hfree j oj hoj hji hjun hnot
      have h2 := wpOpIn_beside hF hoj hap (fun cs b => hsel j oj cs b hoj) (fun c => hdef j oj c hoj) hQ h1
      have hfree' : ∀ k ok, ops[k]? = some ok → k ≠ i → (listed.setIfInBounds j true).getD k true = false →
          (∀ e ∈ ok.after, Region.binds .any e = true → e.on ≠ i) → oi.apart ops ok = true ∧ (cells ≠ [] → Op.isStore ok.op = false) := fun k ok hk hki hun hno => by
        refine hfree k ok hk hki ?_ hno
        by_cases hjk : j = k
        · subst hjk; exact hjun
        · rw [getD_set_ne true hjk] at hun; exact hun
      refine wpOpIn_mono (fun a' w' ⟨⟨u, hu⟩, g', lv', htm, h3⟩ => ⟨g', lv', htm, ih (listed.setIfInBounds j true) g' lv' a' w' hfree' (ready_mono hr (Ne.symm hji)) ?_ ?_⟩) h2
      · obtain ⟨q1, q2, q3⟩ := Oper.apart_spec hap
        have e1 : execOp a'.eval oi = execOp a.eval oi := by
          rw [eval_tmps hu]
          exact execOp_put oi (fun cs b => hsel i oi cs b hi) a oj.dst u q3
        have e2 : Region.wanted oi (yielded ops a'.tmps) = Region.wanted oi (yielded ops a.tmps) := by
          rw [hu]
          exact wanted_put oi a oj.dst u q3
        rcases hy with ⟨y1, y2, y3⟩ | ⟨y1, y2⟩
        · refine .inl ⟨e2.trans y1, fun p hp => ?_, fun W hW => by rw [e1]; exact y3 W hW⟩
          obtain ⟨s1, s2⟩ := y2 p hp
          have hcn : cells ≠ [] := by rintro rfl; cases hp
          have := htm (by rw [hoj]; exact hst hcn) _ _ _ s1 s2
          exact ⟨this.2, this.1⟩
        · exact .inr ⟨e2.trans y1, y2⟩
      · rw [Array.setIfInBounds_comm _ _ hji]
        exact h3
/-- an order in which a region may be walked -/
def stepOk (ops : Array Oper) (listed : Array Bool) (i : Nat) : Bool := match ops[i]? with
  | none => false
  | some o => (Region.ready .any ops listed == [i]) || (quietOp o.op && (Region.ready .any ops listed).contains i && Region.free .any ops listed i &&
      (!Op.isLoad o.op || (List.range ops.size).all fun j => j == i || listed.getD j true || match ops[j]? with
        | some oj => oj.after.any (fun e => Region.binds .any e && e.on == i) || !Op.isStore oj.op
        | none => true))
def takeOk (ops : Array Oper) : List Nat → Array Bool → Bool
  | [], listed => (Region.ready .any ops listed).isEmpty
  | i :: r, listed => stepOk ops listed i && takeOk ops r (listed.setIfInBounds i true)
def regionOk (ops : Array Oper) (sch : List Nat) : Bool := Nat.ble sch.length ops.size && Region.noSelect ops && (ops.all fun o => !Op.isDefer o.op) && takeOk ops sch (Array.replicate ops.size false)
theorem put_n (st : St) (d : Option Nat) (t : T) : (st.put d t).n = st.n := by
  cases d with
  | none => rfl
  | some d => by_cases h : d < st.n; rw [St.put_lt h]; rw [St.put_ge h]
theorem quiet_noDefer {o : Oper} (h : quietOp o.op = true) : ∀ c, o.op ≠ .defer c := fun c e => by rw [e] at h; cases h
theorem semG_quiet (hT : TabOk P tb) {C : Con} {o : Oper} {a : Act} {w : World} {g : Gh} {st : St} {K : St → Prop} (hq : quietOp o.op = true) (hd : Hd P X base S st a w g) (hs : semG tb C ops.toList o st K) : ∃ v t cells, YQ P ops o v cells g st.lv a w ∧ RepT P w g t v ∧ K (st.put o.dst t) ∧ (cells ≠ [] → Op.isLoad o.op = true) := by
  have noload : ∀ {K : T → St → Prop}, semOp tb C o st K → ∃ v t, ∃ cells : List ((Nat × Nat) × Value), (∀ p ∈ cells, Safe w g st.lv p.1.1 p.1.2 ∧ w.cell? ⟨p.1.1, p.1.2, none⟩ = some p.2) ∧ (∀ W : World, (∀ p ∈ cells, W.cell? ⟨p.1.1, p.1.2, none⟩ = some p.2) → (execOp a.eval o).run P W = .ok (.value v) W) ∧ RepT P w g t v ∧ K t st ∧ (cells ≠ [] → Op.isLoad o.op = true) := fun {K} h => semOp_ranQ hT hq hd h
  unfold semG at hs
  rw [frc_put] at hs
  split at hs
  · rename_i hg
    obtain ⟨v, t, cells, h1, h2, h3, h4, h5⟩ := noload hs
    exact ⟨v, t, cells, .inl ⟨by simp [Region.wanted, hg], h1, h2⟩, h3, h4, h5⟩
  · rename_i p hg
    split at hs <;> try exact hs.elim
    rename_i go hgo
    split at hs <;> try exact hs.elim
    rename_i d hdst
    have hev := hd.env d
    have hy : ∀ q : Bool, tget st.env d = .v (.bool q) → Region.wanted o (yielded ops a.tmps) = (q == p.2) := fun q hq => by
      rw [hq] at hev
      have hev' : a.eval (.tmp d) = .bool q := hev
      unfold Region.wanted
      rw [hg]
      have hyy : yielded ops a.tmps p.1 = some q := by
        unfold yielded
        rw [Array.getElem?_toList] at hgo
        rw [hgo]
        simp only [Option.bind_some, hdst]
        have h2 : a.tmps.getD d undef = .bool q := hev'
        cases h3 : a.tmps[d]? with
        | none => rw [Array.getD_eq_getD_getElem?, h3] at h2; cases h2
        | some z => rw [Array.getD_eq_getD_getElem?, h3] at h2; rw [show z = _ from h2]
      show (yielded ops a.tmps p.1 == some p.2) = _
      rw [hyy]
      cases q <;> cases p.2 <;> rfl
    have hz : tget st.env d = .tup [] → Region.wanted o (yielded ops a.tmps) = false := fun hq => by
      rw [hq] at hev
      obtain ⟨vs, h2, h3⟩ := hev
      have h4 : a.tmps.getD d undef = .tuple #[] := by
        rw [show vs = #[] from Array.toList_inj.1 (show vs.toList = [] from h3)] at h2
        exact h2
      unfold Region.wanted
      rw [hg]
      have hyy : yielded ops a.tmps p.1 = none := by
        unfold yielded
        rw [Array.getElem?_toList] at hgo
        rw [hgo]
        simp only [Option.bind_some, hdst]
        cases h3 : a.tmps[d]? with
        | none => rfl
        | some z =>
          rw [Array.getD_eq_getD_getElem?, h3] at h4
          rw [show z = .tuple #[] from h4]
      show (yielded ops a.tmps p.1 == some p.2) = _
      rw [hyy]
      cases p.2 <;> rfl
    split at hs <;> try exact hs.elim
    all_goals
      first
        | (rename_i h1 h2
           have hw := hy _ h1
           rw [h2] at hw
           first
             | (obtain ⟨v, t, cells, i1, i2, i3, i4, i5⟩ := noload hs
                exact ⟨v, t, cells, .inl ⟨hw, i1, i2⟩, i3, i4, i5⟩)
             | exact ⟨undef, .tup [], [], .inr ⟨hw, rfl⟩, ⟨#[], rfl, rfl⟩, hs, fun h => absurd rfl h⟩)
        | (rename_i h1
           exact ⟨undef, .tup [], [], .inr ⟨hz h1, rfl⟩, ⟨#[], rfl, rfl⟩, hs, fun h => absurd rfl h⟩)
theorem sch_anyK {X0 : En} (hX : ∀ w, X.E w → X0.E w) (hF : Open F) (hT : TabOk P tb) (hsel : Region.noSelect ops = true) (hdef : (ops.all fun o => !Op.isDefer o.op) = true) {K : St → Prop} {a0 : Act} {w0 : World} {g0 : Gh}
    {Wr : Nat → Prop} (hWr : ∀ (j : Nat) (o : Oper) (d : Nat), ops[j]? = some o → o.dst = some d → Wr d)
    (hQn : ∀ a w st g, K st → Hd P X base S st a w g → Stp X base S N w0 g0 w g → a.defers = a0.defers → st.n = N → (∀ t, ¬ Wr t → a.tmps.getD t undef = a0.tmps.getD t undef) → Q .normal a w) (hQp : ∀ c a w, ¬ Q (.panic c) a w) :
    ∀ (sch : List Nat) (fuel : Nat) (listed : Array Bool) (st : St) (a : Act) (w : World) (g : Gh), sch.length ≤ fuel → takeOk ops sch listed = true → semSch tb (Fn P X0) ops.toList sch st K → Hd P X base S st a w g → Stp X base S N w0 g0 w g → a.defers = a0.defers → st.n = N → (∀ t, ¬ Wr t → a.tmps.getD t undef = a0.tmps.getD t undef) → AnyK F n P ops Q fuel listed g st.lv a w := by
  have hs0 := Region.noSelect_spec hsel
  have hd0 : ∀ (j : Nat) (o : Oper) c, ops[j]? = some o → o.op ≠ .defer c := fun j o c hj e => by
    have := Array.all_eq_true_iff_forall_mem.1 hdef o (Array.mem_of_getElem? hj)
    rw [e] at this; cases this
  intro sch
  induction sch with
  | nil =>
    intro fuel listed st a w g _ hok hs hd hst hdf hn hkp
    have hr : Region.ready .any ops listed = [] := by simpa [takeOk] using hok
    have hq := hQn a w st g hs hd hst hdf hn hkp
    cases fuel with
    | zero => exact ⟨hr, hq⟩
    | succ fuel => exact ⟨fun _ => hq, by rw [hr]; simp⟩
  | cons i r ih =>
    intro fuel listed st a w g hlen hok hs hd hst hdf hn hkp
    obtain ⟨fuel, rfl⟩ : ∃ m, fuel = m + 1 := ⟨fuel - 1, by simp at hlen; omega⟩
    rw [takeOk, Bool.and_eq_true] at hok
    obtain ⟨hok1, hok2⟩ := hok
    unfold semSch at hs
    unfold stepOk at hok1
    rw [Array.getElem?_toList] at hs
    cases hi : ops[i]? with
    | none => rw [hi] at hok1; cases hok1
    | some o =>
      rw [hi] at hs hok1
      dsimp only at hs hok1
      rw [Bool.or_eq_true] at hok1
      rcases hok1 with hone | hq
      · have hone' : Region.ready .any ops listed = [i] := by simpa using hone
        refine ⟨fun h => (by rw [hone'] at h; cases h), fun j hj => ?_⟩
        rw [hone'] at hj
        have hj' : j = i := by simpa using hj
        subst hj'
        have h1 := semG_wpIn hX hF hT (n := n) (N := N) Q hn hd hs
        have next : ∀ a' w', Aft P X base S N st.lv (!Op.isStore o.op) o.dst a w g (fun st' => semSch tb (Fn P X0) ops.toList r st' K) a' w' → ∃ g' lv', (((ops[j]?).map fun o => Op.isStore o.op).getD false = false → Tame w g st.lv w' g' lv') ∧ AnyK F n P ops Q fuel (listed.setIfInBounds j true) g' lv' a' w' := fun a' w' ⟨st', g', q1, q2, q3, q4, q5, q6, q7⟩ =>
          ⟨g', st'.lv, fun h => q5 (by rw [hi] at h; simpa using h), ih fuel _ st' a' w' g' (by simp at hlen; omega) hok2 q1 q2 (hst.trans q3) (q4.trans hdf) (by have e1 := q2.sz; have e2 := hd.sz; omega) (fun t ht => (q7 t (fun e => ht (hWr _ o t hi e))).trans (hkp t ht))⟩
        unfold wpOpIn
        simp only [hi] at next ⊢
        split
        · rename_i hw
          rw [if_pos hw] at h1
          exact Oper.wpIn_mono next h1
        · rename_i hw
          rw [if_neg hw] at h1
          exact ⟨h1.1, next _ _ h1.2⟩
      · simp only [Bool.and_eq_true] at hq
        obtain ⟨⟨⟨q1, q2⟩, q3⟩, q4⟩ := hq
        obtain ⟨v, t, cells, y1, y2, y3, y4⟩ := semG_quiet hT q1 hd hs
        refine anyK_take hF hi hs0 hd0 (fun c a w h => absurd h (hQp c _ _)) fuel listed g st.lv a w ?_ (by simpa using q2) y1 ?_
        · intro j oj hj hji hun hno
          refine ⟨Region.free_spec hi q3 j oj hj hji hun hno, fun hc => ?_⟩
          rw [y4 hc] at q4
          simp only [Bool.not_true, Bool.false_or, List.all_eq_true, List.mem_range] at q4
          have := q4 j (Array.getElem?_eq_some_iff.1 hj).1
          simp only [hj, Bool.or_eq_true, beq_iff_eq, hji, false_or, hun, Bool.false_eq_true] at this
          rcases this with h | h
          · obtain ⟨e, he, hb⟩ := Array.any_eq_true'.1 h
            simp only [Bool.and_eq_true, beq_iff_eq] at hb
            exact absurd hb.2 (hno e he hb.1)
          · simpa using h
        · have := ih fuel (listed.setIfInBounds i true) (st.put o.dst t) (a.put o.dst v) w g (by simp at hlen; omega) hok2 y3 (hd.put o.dst y2) hst ((put_defers _ _ _).trans hdf) ((put_n _ _ _).trans hn) (fun t ht => (put_keep _ _ _ t (fun e => ht (hWr _ o t hi e))).trans (hkp t ht))
          rwa [St.put_lv] at this
end Go.Proofs.YtjmpkbmgcbalkaaGreatDoor
/- A range over a function, in line: the loop's statement by the walk of the function that is ranged over, a call of yield by the walk of the body. Laws of whatever program; conditions: the loop's record lies where it was laid. -/
namespace Go.Proofs.YtjmpkbmgcbalkaaGreatDoor.Rng
open Go.RowKit Go.Shelf
set_option linter.unusedVariables false
variable {P : Program}
/-- the record of a loop: its state and the jump that waits -/
structure Rec where
  fn : FuncId
  tmps : Array Value
  params : Array Tmp
  assign : Code
  body : Code
  defers : Nat
def Rec.at (r : Rec) (st : LoopState) (pe : Option Code) : Obj := .loop { state := st, pending := pe, fn := r.fn, tmps := r.tmps, params := r.params, assign := r.assign, body := r.body, defers := r.defers }
/-- THE STATEMENT, outside of rounds. -/
theorem wp_range {n : Nat} {g : Operand} {ps : Array Tmp} {assign body : Code} {Q : Exit → Act → World → Prop} {a : Act} {w : World} {gf : Nat} {lb : Array Value}
    (hg : a.eval g = .func (.func gf) #[] lb) (eg : ∀ args w, (callFunc gf args).run P w = .ok (.enter gf args) w)
    (h : ∀ fn, Calls P gf (#[.func (.yield (w.heap.size + 1)) #[] #[]] ++ lb) ((w.alloc (.deferred (some []))).alloc (Rec.at ⟨fn, a.tmps, ps, assign, body, w.heap.size⟩ .ready none)) fun e w3 =>
      (∃ v, e = .returned v) ∧ ∃ st pe, st ≠ .busy ∧ w3.heap[w.heap.size + 1]? = some (Rec.at ⟨fn, a.tmps, ps, assign, body, w.heap.size⟩ st pe) ∧
        (match pe with
         | none => Q .normal { a with defers := { target := .collected w.heap.size, args := #[] } :: a.defers } (w3.putObj (w.heap.size + 1) (Rec.at ⟨fn, a.tmps, ps, assign, body, w.heap.size⟩ .exhausted pe))
         | some c => c.wp P Q { a with defers := { target := .collected w.heap.size, args := #[] } :: a.defers } (w3.putObj (w.heap.size + 1) (Rec.at ⟨fn, a.tmps, ps, assign, body, w.heap.size⟩ .exhausted pe)))) :
    (Code.rangeFunc g ps assign body).wp P Q a w := by
  refine (wpIn_wide (n := n)).1 (wpIn_rangeFunc fun fn _ => ?_)
  refine ⟨w.heap.size + 1, [{ target := .collected w.heap.size, args := #[] }], (w.alloc (.deferred (some []))).alloc (Rec.at ⟨fn, a.tmps, ps, assign, body, w.heap.size⟩ .ready none), { target := .fn (.func gf) lb, args := #[.func (.yield (w.heap.size + 1)) #[] #[]] }, ((w.alloc (.deferred (some []))).alloc (Rec.at ⟨fn, a.tmps, ps, assign, body, w.heap.size⟩ .ready none)), gf,
    #[.func (.yield (w.heap.size + 1)) #[] #[]] ++ lb, ((w.alloc (.deferred (some []))).alloc (Rec.at ⟨fn, a.tmps, ps, assign, body, w.heap.size⟩ .ready none)), run_enterLoop_outer _ _ _ _ _, ?_, fun f' _ => trivial, ?_, fun h => by simp [Fence.wide] at h, ?_⟩
  · simp only [resolve, hg]
    simp [go_sem]
  · simp [invoke, go_sem, eg]
  · refine callsIn_wide.2 ((h fn).mono ?_)
    rintro e w3 ⟨⟨v, rfl⟩, st, pe, hst, hl, hq⟩
    refine ⟨pe, _, run_endLoop (P := P) hl (by simpa using hst), ?_⟩
    cases pe with
    | none => exact hq
    | some c => exact (wpIn_wide).2 hq
/-- A CALL OF yield: the loop's left sides, the body. -/
theorem round {m l : Nat} {r : Rec} {tmps : Array Value} {W : World} {R : Ending → World → Prop} (hl : W.heap[l]? = some (r.at .ready none))
    (h : r.assign.wpIn (Fence.wide.inRound l) m P (Exit.then (fun a1 W1 => W1.heap[l]? = some (r.at .ready none) ∧
      r.body.wpIn (Fence.wide.inRound l) m P (fun e _ W3 => W3.heap[l]? = some (r.at .busy none) ∧
        match e with
        | .normal => R (.returned (.bool true)) (W3.putObj l (r.at .ready none))
        | .ret => R (.returned (.bool false)) (W3.putObj l (r.at .done (some .ret)))
        | .exit id => R (.returned (.bool false)) (W3.putObj l (r.at .done (some (.exit id))))
        | .goto t => R (.returned (.bool false)) (W3.putObj l (r.at .done (some (.goto t))))
        | _ => False) a1 (W1.putObj l (r.at .busy none))) (fun _ _ _ => False)) { tmps := tmps, defers := [] } W) :
    RoundIn Fence.wide m P l r.fn tmps r.assign r.body W R := by
  refine roundIn_of_wpIn trivial (wpIn_mono h ?_)
  intro e a1 W1 hq
  cases e with
  | normal =>
    obtain ⟨h1, h2⟩ := hq
    refine ⟨_, run_beginRound h1 rfl, wpIn_mono h2 ?_⟩
    intro e a3 W3 hp
    obtain ⟨h3, h4⟩ := hp
    cases e with
    | normal => exact ⟨_, _, run_endRound (P := P) none h3, h4⟩
    | ret => exact ⟨_, _, run_endRound (P := P) (some .ret) h3, h4⟩
    | exit id => exact ⟨_, _, run_endRound (P := P) (some (.exit id)) h3, h4⟩
    | goto t => exact ⟨_, _, run_endRound (P := P) (some (.goto t)) h3, h4⟩
    | panic c => exact h4.elim
    | outgrown => exact h4.elim
  | exit id => exact hq.elim
  | goto t => exact hq.elim
  | ret => exact hq.elim
  | panic c => exact hq.elim
  | outgrown => exact hq.elim
/-- A function that ranges over another one, outside of rounds. -/
theorem calls_of_marks {n : Nat} {f : FuncId} {fn : Func} {c : Code} {args : Array Value} {w : World} {R : Ending → World → Prop}
    (hf : P.funcs[f]? = some fn) (hb : fn.body = some c)
    (h : c.wp P (bodyPostM Fence.wide n P fn R) { tmps := args ++ Array.replicate (fn.ntmps - args.size) undef, defers := [] } w) : Calls P f args w R :=
  callsIn_wide.1 (callsIn_of_wp_marks (n := n) hf hb trivial (wpIn_wide.2 h))
end Go.Proofs.YtjmpkbmgcbalkaaGreatDoor.Rng
/- The walk without memory: pieces of code, loops, a function's contract out of the walk of its body. Whatever program. -/
namespace Go.Proofs.YtjmpkbmgcbalkaaGreatDoor
open Go.RowKit
set_option linter.unusedVariables false
variable {P : Program} {X : En} {base N : Nat} {S : Nat → Prop} {tb : Tab} {F : Fence} {n : Nat}
/-! ### a state that says less -/
mutual
def T.noK : T → Bool
  | .own _ _ _ => false
  | .fn _ caps => T.noKs caps
  | .tup l => T.noKs l
  | _ => true
def T.noKs : List T → Bool
  | [] => true
  | t :: r => t.noK && T.noKs r
end
mutual
theorem noK_hasK : ∀ (t : T) (i : Nat), t.noK = true → t.hasK i = false
  | .un, _, _ => rfl
  | .v _, _, _ => rfl
  | .own _ _ _, _, h => by cases h
  | .ptr _ _, _, _ => rfl
  | .ro _, _, _ => rfl
  | .fn _ l, i, h => noKs_hasKs l i h
  | .tup l, i, h => noKs_hasKs l i h
theorem noKs_hasKs : ∀ (l : List T) (i : Nat), T.noKs l = true → T.hasKs i l = false
  | [], _, _ => rfl
  | t :: r, i, h => by
    rw [T.noKs, Bool.and_eq_true] at h
    rw [T.hasKs, noK_hasK t i h.1, noKs_hasKs r i h.2]; rfl
end
def WkT (σ : List (Nat × Option Nat)) : T → T → Prop
  | _, .un => True
  | .v x, .v y => x = y ∨ (x = .nils ∧ y = .sl [])
  | .v x, .own k' _ ys => x = .nils ∧ ys = [] ∧ lk k' σ = some none
  | .own k e xs, .own k' e' ys => e = e' ∧ xs = ys ∧ lk k' σ = some (some k)
  | .own _ _ xs, .v y => y = .sl xs
  | .ptr i o, .ptr j p => i = j ∧ o = p
  | .ro a, .ro b => a = b
  | .fn f cs, .fn g ds => f = g ∧ LeTs cs ds ∧ T.noKs ds = true
  | _, _ => False
def WkTs (σ : List (Nat × Option Nat)) : List T → List T → Prop
  | [], [] => True
  | x :: xs, y :: ys => WkT σ x y ∧ WkTs σ xs ys
  | _, _ => False
def WkE (σ : List (Nat × Option Nat)) (st : St) : List (Nat × T) → Prop
  | [] => True
  | p :: r => WkT σ (tget st.env p.1) p.2 ∧ WkE σ st r
def WkB (σ : List (Nat × Option Nat)) (st : St) : List (Nat × List T) → Prop
  | [] => True
  | p :: r => (match lk p.1 st.bs with
    | some cs => WkTs σ cs p.2
    | none => False) ∧ WkB σ st r
def WkL (σ : List (Nat × Option Nat)) (st : St) : List (Nat × Option Nat) → Prop
  | [] => True
  | p :: r => (match p.2 with
    | none => True
    | some e => match lk p.1 σ with
      | some none => True
      | some (some k) => lget st.lv k = some e
      | none => False) ∧ WkL σ st r
def injσ : List (Nat × Option Nat) → Bool
  | [] => true
  | p :: r => (match p.2 with
    | none => true
    | some k => r.all fun q => match q.2 with
      | none => true
      | some k' => !Nat.beq k k') && injσ r
def Wk (σ : List (Nat × Option Nat)) (st st' : St) : Prop := st'.n = st.n ∧ injσ σ = true ∧ WkE σ st st'.env ∧ WkB σ st st'.bs ∧ WkL σ st st'.lv
theorem lk_mem {β : Type} {n : Nat} {x : β} : ∀ {l : List (Nat × β)}, lk n l = some x → (n, x) ∈ l
  | [], h => by cases h
  | p :: r, h => by
    unfold lk at h
    split at h
    · rename_i hb
      have := Nat.eq_of_beq_eq_true hb
      cases h
      subst this
      exact List.mem_cons_self
    · exact List.mem_cons_of_mem _ (lk_mem h)
theorem injσ_ne : ∀ {σ : List (Nat × Option Nat)}, injσ σ = true → ∀ {a b k : Nat}, lk a σ = some (some k) → lk b σ = some (some k) → a = b
  | [], _, _, _, _, h, _ => by cases h
  | p :: r, hi, a, b, k, ha, hb => by
    rw [injσ, Bool.and_eq_true] at hi
    by_cases h1 : a = p.1
    · subst h1
      rw [show p :: r = (p.1, p.2) :: r from rfl, lk_cons_eq] at ha
      by_cases h2 : b = p.1
      · exact h2.symm
      · rw [show p :: r = (p.1, p.2) :: r from rfl, lk_cons_ne _ _ h2] at hb
        have h3 := hi.1
        cases ha' : p.2 with
        | none => rw [ha'] at ha; cases ha
        | some k0 =>
          rw [ha'] at ha h3
          cases ha
          have := List.all_eq_true.1 h3 _ (lk_mem hb)
          simp at this
    · rw [show p :: r = (p.1, p.2) :: r from rfl, lk_cons_ne _ _ h1] at ha
      by_cases h2 : b = p.1
      · subst h2
        rw [show p :: r = (p.1, p.2) :: r from rfl, lk_cons_eq] at hb
        have h3 := hi.1
        cases hb' : p.2 with
        | none => rw [hb'] at hb; cases hb
        | some k0 =>
          rw [hb'] at hb h3
          cases hb
          have := List.all_eq_true.1 h3 _ (lk_mem ha)
          simp at this
      · rw [show p :: r = (p.1, p.2) :: r from rfl, lk_cons_ne _ _ h2] at hb
        exact injσ_ne hi.2 ha hb
def Gh.ren (g : Gh) (σ : List (Nat × Option Nat)) : Gh := { g with κ := fun k => match lk k σ with
  | some (some j) => g.κ j
  | _ => .slice none 0 0 }
theorem WkT.rep {w : World} {g : Gh} {σ : List (Nat × Option Nat)} {t t' : T} {v : Value} (h : WkT σ t t') (r : RepT P w g t v) : RepT P w (g.ren σ) t' v := by
  have base : ∀ t' : T, t'.noK = true → RepT P w g t' v → RepT P w (g.ren σ) t' v := fun t' hk r =>
    RepT.mono (w := w) (g := g) (g' := g.ren σ) (Same.refl _ _) t' v (fun _ _ => rfl) (fun k hk' => by rw [noK_hasK t' k hk] at hk'; cases hk') r
  cases t' with
  | un => trivial
  | v y =>
    cases t with
    | v x =>
      rcases h with rfl | ⟨rfl, rfl⟩
      · exact r
      · exact ⟨none, 0, r, Nat.le_refl _, fun e => absurd rfl e⟩
    | own k e xs => rw [show y = _ from h]; exact r.1
    | _ => cases h
  | own k' e' ys =>
    cases t with
    | v x =>
      obtain ⟨rfl, rfl, hσ⟩ := h
      refine ⟨⟨none, 0, r, Nat.le_refl _, fun e => absurd rfl e⟩, ?_, fun c hc => by cases hc⟩
      show v = match lk k' σ with | some (some j) => g.κ j | _ => .slice none 0 0
      rw [hσ]
      exact r
    | own k e xs =>
      obtain ⟨rfl, rfl, hσ⟩ := h
      refine ⟨r.1, ?_, r.2.2⟩
      show v = match lk k' σ with | some (some j) => g.κ j | _ => .slice none 0 0
      rw [hσ]
      exact r.2.1
    | _ => cases h
  | ptr j p =>
    cases t with
    | ptr i o => obtain ⟨rfl, rfl⟩ := h; exact r
    | _ => cases h
  | ro b =>
    cases t with
    | ro a => rw [WkT] at h; subst h; exact r
    | _ => cases h
  | fn f ds =>
    cases t with
    | fn f' cs =>
      obtain ⟨rfl, h1, h2⟩ := h
      obtain ⟨us, e, r⟩ := r
      exact base _ h2 ⟨us, e, LeTs.rep cs ds us.toList h1 r⟩
    | _ => cases h
  | tup l => cases t <;> cases h
theorem WkTs.get {σ : List (Nat × Option Nat)} : ∀ {l m : List T} {i : Nat} {t' : T}, WkTs σ l m → m[i]? = some t' → ∃ t, l[i]? = some t ∧ WkT σ t t'
  | [], [], _, _, _, h => by simp at h
  | [], _ :: _, _, _, h, _ => by cases h
  | _ :: _, [], _, _, h, _ => by cases h
  | x :: xs, y :: ys, 0, t', h, hi => by simp at hi; subst hi; exact ⟨x, rfl, h.1⟩
  | x :: xs, y :: ys, i + 1, t', h, hi => by
    obtain ⟨t, h1, h2⟩ := h.2.get (i := i) (by simpa using hi)
    exact ⟨t, by simpa using h1, h2⟩
theorem WkE.at {σ : List (Nat × Option Nat)} {st : St} : ∀ {l : List (Nat × T)} {p : Nat × T}, WkE σ st l → p ∈ l → WkT σ (tget st.env p.1) p.2
  | [], _, _, h => by cases h
  | q :: r, p, h, hp => by
    rcases List.mem_cons.1 hp with rfl | hp
    · exact h.1
    · exact h.2.at hp
theorem WkB.at {σ : List (Nat × Option Nat)} {st : St} : ∀ {l : List (Nat × List T)} {p : Nat × List T}, WkB σ st l → p ∈ l → ∃ cs, lk p.1 st.bs = some cs ∧ WkTs σ cs p.2
  | [], _, _, h => by cases h
  | q :: r, p, h, hp => by
    rcases List.mem_cons.1 hp with rfl | hp
    · have h1 := h.1
      split at h1
      · rename_i cs hcs; exact ⟨cs, hcs, h1⟩
      · exact h1.elim
    · exact h.2.at hp
theorem WkL.at {σ : List (Nat × Option Nat)} {st : St} : ∀ {l : List (Nat × Option Nat)} {k e : Nat}, WkL σ st l → (k, some e) ∈ l → lk k σ = some none ∨ ∃ j, lk k σ = some (some j) ∧ lget st.lv j = some e
  | [], _, _, _, h => by cases h
  | q :: r, k, e, h, hp => by
    rcases List.mem_cons.1 hp with rfl | hp
    · have h1 := h.1
      dsimp only at h1
      split at h1
      · rename_i h2; exact .inl h2
      · rename_i j h2; exact .inr ⟨j, h2, h1⟩
      · exact h1.elim
    · exact h.2.at hp
theorem lget_mem {lv : List (Nat × Option Nat)} {k e : Nat} (h : lget lv k = some e) : (k, some e) ∈ lv := by
  unfold lget at h
  split at h
  · rename_i hk; cases h; exact lk_mem hk
  · cases h
theorem Hd.wk {st st' : St} {a : Act} {w : World} {g : Gh} {σ : List (Nat × Option Nat)} (hd : Hd P X base S st a w g) (h : Wk σ st st') : Hd P X base S st' a w (g.ren σ) ∧ Stp X base S N w g w (g.ren σ) := by
  obtain ⟨h1, h2, h3, h4, h5⟩ := h
  have hK : ∀ i, isK st'.bs i → isK st.bs i := fun i hi => by
    unfold isK at *
    obtain ⟨cs, hcs⟩ := Option.isSome_iff_exists.1 hi
    obtain ⟨cs0, e0, _⟩ := h4.at (lk_mem hcs)
    dsimp only at e0
    rw [e0]; rfl
  have hlv : ∀ {k e}, lget st'.lv k = some e → (lk k σ = some none ∧ (g.ren σ).κ k = .slice none 0 0) ∨ ∃ j, lk k σ = some (some j) ∧ lget st.lv j = some e ∧ (g.ren σ).κ k = g.κ j := fun {k e} hk => by
    rcases h5.at (lget_mem hk) with h | ⟨j, h, hj⟩
    · exact .inl ⟨h, by simp [Gh.ren, h]⟩
    · exact .inr ⟨j, h, hj, by simp [Gh.ren, h]⟩
  refine ⟨⟨hd.sz.trans h1.symm, fun t => ?_, ⟨?_, fun hi => hd.mm.frz (hK _ hi), fun hi => hd.mm.bxL (hK _ hi), fun hi => hd.mm.bxE (hK _ hi), fun hi => hd.mm.loc (hK _ hi), fun hi => hd.mm.lt (hK _ hi), fun hi hj => hd.mm.inj (hK _ hi) (hK _ hj), ?_, ?_, hd.mm.Lc, fun hi => hd.mm.bc (hK _ hi), ?_⟩, hd.E, hd.le⟩, ⟨Upd.refl _ _, Same.refl _ _, .inl, fun _ => rfl, fun h _ => h⟩⟩
  · unfold tget
    cases ht : lk t st'.env with
    | none => trivial
    | some x => exact (h3.at (lk_mem ht)).rep (hd.env t)
  · intro i cs' hi j c' hj
    obtain ⟨cs, e0, hw⟩ := h4.at (lk_mem hi)
    obtain ⟨c, hc, hwt⟩ := hw.get hj
    obtain ⟨u, hu, hr, ho⟩ := hd.mm.box e0 hc
    exact ⟨u, hu, hwt.rep hr, ho⟩
  · intro k e hk
    rcases hlv hk with ⟨_, e1⟩ | ⟨j, _, hj, e1⟩
    · rw [e1]
      exact ⟨0, [], World.ownsRow_nil w base e _, fun b hb => by cases hb⟩
    · rw [e1]
      obtain ⟨n, vals, o1, o2⟩ := hd.mm.own hj
      exact ⟨n, vals, o1, fun b hb => ⟨(o2 b hb).1, fun i hi => (o2 b hb).2 i (hK i hi)⟩⟩
  · intro k k' e e' hk hk' hne
    rcases hlv hk with ⟨_, e1⟩ | ⟨j, hj1, hj, e1⟩
    · rw [e1]; exact .inl rfl
    · rcases hlv hk' with ⟨_, e2⟩ | ⟨j', hj1', hj', e2⟩
      · rw [e1, e2]
        cases hb : (g.κ j).ownBlock with
        | none => exact .inl rfl
        | some b => exact .inr (by simp [Value.ownBlock])
      · rw [e1, e2]
        refine hd.mm.ownInj hj hj' fun e => hne ?_
        subst e
        exact injσ_ne h2 hj1 hj1'
  · intro k e b hk hb
    rcases hlv hk with ⟨_, e1⟩ | ⟨j, hj1, hj, e1⟩
    · rw [e1] at hb; cases hb
    · rw [e1] at hb; exact hd.mm.ownE hj hb
/-! ### iterators -/
/-- AN ITERATOR'S CONTRACT: what it yields, one by one; it changes nothing but memory of its own. J: what the rounds hold to, so many values yielded, that memory Z. -/
def It (P : Program) (X : En) (f : FuncId) (caps : List T) (ys : List (List V)) : Prop :=
  (∀ (vs : Array Value) (w : World), (callFunc f vs).run P w = .ok (.enter f vs) w) ∧
  ∀ (l0 : Nat) (L : Lv) (cvs : List Value) (w0 : World) (J : Nat → (Nat → Prop) → World → Prop) (Stop : World → Prop),
    X.E w0 → (∀ {b o}, L b o → ∃ u, w0.cell? ⟨b, o, none⟩ = some u) → RepTs P w0 ⟨L, fun _ => (0, 0), fun _ => undef⟩ caps cvs →
    J 0 (fun _ => False) w0 →
    (∀ i Z W W', J i Z W → Upd Z W W' → J i (fun b => Z b ∨ (W.heap.size ≤ b ∧ b < W'.heap.size)) W') →
    (∀ i Z Z' W, J i Z W → (∀ b, Z' b → Z b) → J i Z' W) →
    (∀ i Z W, J i Z W → X.E W ∧ Same L w0 L W ∧ w0.heap.size ≤ W.heap.size ∧ (∀ b, Z b → w0.heap.size ≤ b ∧ b < W.heap.size)) →
    (∀ (i : Nat) (y : List V) Z Z' W (L' : Lv) (args : List Value), ys[i]? = some y → J i Z W → RepL W L' y args → (∀ {b o}, L' b o → L b o ∨ Z b) → (∀ b, Z' b → Z b) → (∀ {b o}, L' b o → ¬ Z' b) →
      ∃ fn tmps assign body, (Instr.yield l0 args.toArray).run P W = .ok (.round l0 fn tmps assign body) W ∧ RoundIn Fence.wide 0 P l0 fn tmps assign body W (fun e W' => (e = .returned (.bool true) ∧ J (i + 1) Z' W' ∧ Upd (fun b => ¬ Z' b) W W') ∨ (e = .returned (.bool false) ∧ Stop W'))) →
    Calls P f (#[.func (.yield l0) #[] #[]] ++ cvs.toArray) w0 fun e W' => (∃ v, e = .returned v) ∧ ((∃ Z, J ys.length Z W') ∨ Stop W')
/-! ### code -/
def seqQ (K : St → Prop) (Q : Exit → St → Prop) : Exit → St → Prop
  | .normal, st => K st
  | e, st => Q e st
def blockQ (id : Nat) (Q : Exit → St → Prop) : Exit → St → Prop
  | .exit j, st => match Nat.beq j id with
    | true => Q .normal st
    | false => Q (.exit j) st
  | e, st => Q e st
def loopQ {α : Type} (I : α → St) (inv : α → Prop) (rk : α → Nat) (x : α) (Q : Exit → St → Prop) : Exit → St → Prop
  | .normal, st => ∃ y σ, inv y ∧ rk y < rk x ∧ Wk σ st (I y)
  | e, st => Q e st
/-- the slots that a piece of code writes -/
def codeW : Code → List Nat
  | .region _ ops _ => ops.toList.filterMap (·.dst)
  | .seq a b => codeW a ++ codeW b
  | .cond _ a b => codeW a ++ codeW b
  | .block _ b => codeW b
  | .loop b => codeW b
  | .scope b => codeW b
  | .rangeFunc _ ps a b => ps.toList ++ (codeW a ++ codeW b)
  | _ => []
def freeE (ws : List Nat) : List (Nat × T) → Bool
  | [] => true
  | p :: r => !(ws.any fun t => Nat.beq t p.1) && freeE ws r
def rndQ (ws : List Nat) (ok : Prop) (next : St) (Q : Exit → St → Prop) : Exit → St → Prop
  | .normal, st => ok ∧ ∃ σ, Wk σ st next
  | .exit j, st => ∃ σ st', Wk σ st st' ∧ freeE ws st'.env = true ∧ Q (.exit j) st'
  | .ret, st => ∃ σ st', Wk σ st st' ∧ freeE ws st'.env = true ∧ Q .ret st'
  | _, _ => False
def putsT : List Nat → List V → List (Nat × T) → List (Nat × T)
  | p :: ps, v :: vs, env => putsT ps vs ((p, .v v) :: env)
  | _, _, env => env
def St.puts : St → List Nat → List V → St
  | ⟨n, env, bs, lv⟩, ps, vs => ⟨n, putsT ps vs env, bs, lv⟩
def aCode (P : Program) (X : En) (tb : Tab) : Code → (Exit → St → Prop) → St → Prop
  | .skip, Q, st => Q .normal st
  | .region _ ops draw, Q, st => match draw with
    | false => semOps tb (Fn P X) ops.toList ops.toList st (Q .normal)
    | true => ∃ sch : Option (List Nat), regionOk ops (sch.getD (List.range ops.size)) = true ∧ semSch tb (Fn P X) ops.toList (sch.getD (List.range ops.size)) st (Q .normal)
  | .seq x y, Q, st => aCode P X tb x (seqQ (fun st' => aCode P X tb y Q st') Q) st
  | .cond c x y, Q, st => match st.ev c with
    | .v (.bool true) => aCode P X tb x Q st
    | .v (.bool false) => aCode P X tb y Q st
    | _ => False
  | .block id b, Q, st => aCode P X tb b (blockQ id Q) st
  | .loop b, Q, st => ∃ (α : Type) (I : α → St) (inv : α → Prop) (rk : α → Nat), (∃ x σ, inv x ∧ Wk σ st (I x)) ∧ ∀ x, inv x → aCode P X tb b (loopQ I inv rk x Q) (I x)
  | .rangeFunc fo ps x y, Q, st => match st.ev fo with
    | .fn f caps => ∃ (caps' : List T) (ys : List (List V)) (I : Nat → St) (inv : Nat → Prop), It P X f caps' ys ∧ LeTs caps caps' ∧ T.pures caps' = true ∧ (inv 0 ∧ ∃ σ, Wk σ st (I 0)) ∧ (∀ i, freeE (ps.toList ++ (codeW x ++ codeW y)) (I i).env = true) ∧ (∀ p ∈ ps.toList, p < st.n) ∧
      (∀ (i : Nat) (v : List V), ys[i]? = some v → inv i → v.length = ps.size ∧ aCode P X tb x (seqQ (fun st' => aCode P X tb y (rndQ (ps.toList ++ (codeW x ++ codeW y)) (inv (i + 1)) (I (i + 1)) Q) st') (fun _ _ => False)) ((I i).puts ps.toList v)) ∧ (inv ys.length → Q .normal (I ys.length))
    | _ => False
  | .exit id, Q, st => Q (.exit id) st
  | .ret, Q, st => Q .ret st
  | .label _, Q, st => Q .normal st
  | .goto l, Q, st => Q (.goto l) st
  | _, _, _ => False
/-- marks of loops among the deferred calls -/
def marks (ms : List Nat) : List Deferred := ms.map fun r => { target := .collected r, args := #[] }
def MarksOk (w0 : World) (w : World) (ms : List Nat) : Prop := ms.Nodup ∧ ∀ r ∈ ms, w0.heap.size ≤ r ∧ w.heap[r]? = some (.deferred (some []))
/-- what is left behind a piece of code -/
def AftR (P : Program) (X : En) (base : Nat) (S : Nat → Prop) (N : Nat) (Wr : Nat → Prop) (a : Act) (w : World) (g : Gh) (Q : Exit → St → Prop) : Exit → Act → World → Prop := fun e a' w' =>
  ∃ st' g', Q e st' ∧ Hd P X base S st' a' w' g' ∧ Stp X base S N w g w' g' ∧ st'.n = N ∧ (∀ t, ¬ Wr t → a'.tmps.getD t undef = a.tmps.getD t undef) ∧ ∃ ms, a'.defers = marks ms ++ a.defers ∧ MarksOk w w' ms
theorem MarksOk.nil (w w' : World) : MarksOk w w' [] := ⟨List.nodup_nil, fun r hr => by cases hr⟩
theorem AftR.next {Wr : Nat → Prop} {a a1 : Act} {w w1 : World} {g g1 : Gh} {Q : Exit → St → Prop} (h : Stp X base S N w g w1 g1) (hk : ∀ t, ¬ Wr t → a1.tmps.getD t undef = a.tmps.getD t undef) (hm : ∃ ms, a1.defers = marks ms ++ a.defers ∧ MarksOk w w1 ms) {e : Exit} {a2 : Act} {w2 : World} (k : AftR P X base S N Wr a1 w1 g1 Q e a2 w2) : AftR P X base S N Wr a w g Q e a2 w2 := by
  obtain ⟨st', g', q1, q2, q3, q4, q5, ms2, q6, q7, q8⟩ := k
  obtain ⟨ms1, m1, m2, m3⟩ := hm
  refine ⟨st', g', q1, q2, h.trans q3, q4, fun t ht => (q5 t ht).trans (hk t ht), ms2 ++ ms1, by rw [q6, m1]; simp [marks], List.nodup_append.2 ⟨q7, m2, fun r hr r' hr' => ?_⟩, fun r hr => ?_⟩
  · rintro rfl
    have h1 := (q8 r hr).1
    have h2 := (Array.getElem?_eq_some_iff.1 (m3 r hr').2).1
    omega
  · rcases List.mem_append.1 hr with hr | hr
    · exact ⟨Nat.le_trans h.upd.size (q8 r hr).1, (q8 r hr).2⟩
    · exact ⟨(m3 r hr).1, q3.obj (m3 r hr).2 rfl⟩
theorem ops_wp {X0 : En} (hX : ∀ w, X.E w → X0.E w) (hF : Open F) (hT : TabOk P tb) {ops : Array Oper} {K : St → Prop} {a0 : Act} {w0 : World} {g0 : Gh} {Q : Exit → Act → World → Prop} {Wr : Nat → Prop} (hWr : ∀ (j : Nat) (o : Oper) (d : Nat), ops[j]? = some o → o.dst = some d → Wr d)
    (hQn : ∀ a w st g, K st → Hd P X base S st a w g → Stp X base S N w0 g0 w g → a.defers = a0.defers → st.n = N → (∀ t, ¬ Wr t → a.tmps.getD t undef = a0.tmps.getD t undef) → Q .normal a w) :
    ∀ (m k : Nat) (st : St) (a : Act) (w : World) (g : Gh), m + k = ops.size → semOps tb (Fn P X0) ops.toList (ops.toList.drop k) st K → Hd P X base S st a w g → Stp X base S N w0 g0 w g → a.defers = a0.defers → st.n = N → (∀ t, ¬ Wr t → a.tmps.getD t undef = a0.tmps.getD t undef) → wpOpsIn F n P ops Q (List.range' k m) a w := by
  intro m
  induction m with
  | zero =>
    intro k st a w g hk hs hd hst hdf hn hkp
    rw [List.drop_eq_nil_of_le (by rw [Array.length_toList]; omega)] at hs
    exact hQn a w st g hs hd hst hdf hn hkp
  | succ m ih =>
    intro k st a w g hk hs hd hst hdf hn hkp
    rw [List.range'_succ, wpOpsIn_cons]
    have hlt : k < ops.size := by omega
    rw [List.drop_eq_getElem_cons (by rw [Array.length_toList]; exact hlt)] at hs
    unfold semOps at hs
    have h1 := semG_wpIn hX hF hT (n := n) (N := N) (ops := ops) Q hn hd hs
    have hi : ops[k]? = some ops.toList[k] := by rw [Array.getElem?_eq_getElem hlt]; simp
    have next : ∀ a' w', Aft P X base S N st.lv (!Op.isStore (ops.toList[k]).op) (ops.toList[k]).dst a w g (fun st' => semOps tb (Fn P X0) ops.toList (ops.toList.drop (k + 1)) st' K) a' w' → wpOpsIn F n P ops Q (List.range' (k + 1) m) a' w' := fun a' w' ⟨st', g', q1, q2, q3, q4, q5, q6, q7⟩ =>
      ih (k + 1) st' a' w' g' (by omega) q1 q2 (hst.trans q3) (q4.trans hdf) (by have e1 := q2.sz; have e2 := hd.sz; omega) (fun t ht => (q7 t (fun e => ht (hWr k _ t hi e))).trans (hkp t ht))
    unfold wpOpIn
    simp only [hi]
    split
    · rename_i hw
      rw [if_pos hw] at h1
      exact Oper.wpIn_mono next h1
    · rename_i hw
      rw [if_neg hw] at h1
      exact ⟨h1.1, next _ _ h1.2⟩
theorem Stp.drew {w : World} {g : Gh} : Stp X base S N w g { w with drawn := w.drawn + 1 } g := ⟨⟨rfl, rfl, rfl, Nat.le_refl _, fun _ _ _ => rfl⟩, fun _ _ _ h k => ⟨h, k⟩, .inl, fun _ => rfl, fun h _ => h⟩
theorem Hd.drew {st : St} {a : Act} {w : World} {g : Gh} (hd : Hd P X base S st a w g) : Hd P X base S st a { w with drawn := w.drawn + 1 } g := by
  have hs : Same g.L w g.L { w with drawn := w.drawn + 1 } := fun _ _ _ h k => ⟨h, k⟩
  refine ⟨hd.sz, fun t => (hd.env t).same hs rfl rfl, ⟨?_, hd.mm.frz, hd.mm.bxL, hd.mm.bxE, hd.mm.loc, hd.mm.lt, hd.mm.inj, hd.mm.own, hd.mm.ownInj, hd.mm.Lc, hd.mm.bc, hd.mm.ownE⟩, X.upd (S := fun _ => False) (w := w) ⟨rfl, rfl, rfl, Nat.le_refl _, fun _ _ _ => rfl⟩ (fun _ h => h.elim) hd.E, hd.le⟩
  intro i cs hi j c hj
  obtain ⟨u, hu, hr, h1⟩ := hd.mm.box hi hj
  exact ⟨u, hu, hr.same hs rfl rfl, h1⟩
/-- a world in which others' blocks alone were changed -/
theorem Hd.upd {st : St} {a : Act} {w w' : World} {g : Gh} {Z : Nat → Prop} (hd : Hd P X base S st a w g) (hu : Upd Z w w') (hZb : ∀ i, isK st.bs i → ¬ Z (g.ρ i).1) (hZL : ∀ {b o}, g.L b o → ¬ Z b) (hZo : ∀ k e b, lget st.lv k = some e → (g.κ k).ownBlock = some b → ¬ Z b) (hZE : ∀ b, Z b → ¬ X.Eb b) : Hd P X base S st a w' g := by
  have hs : Same g.L w g.L w' := fun b o u h1 h2 => ⟨h1, hu.cell h2 (hZL h1)⟩
  refine ⟨hd.sz, fun t => (hd.env t).same hs rfl rfl, ⟨?_, ?_, hd.mm.bxL, hd.mm.bxE, hd.mm.loc, fun hi => Nat.lt_of_lt_of_le (hd.mm.lt hi) hu.size, hd.mm.inj, ?_, hd.mm.ownInj, fun {b o} h => ?_, fun {i} hi => ?_, hd.mm.ownE⟩, X.upd hu hZE hd.E, Nat.le_trans hd.le hu.size⟩
  · intro i cs hi j c hj
    obtain ⟨u, hc, hr, h1⟩ := hd.mm.box hi hj
    exact ⟨u, hu.cell hc (hZb i (by unfold isK; rw [hi]; rfl)), hr.same hs rfl rfl, h1⟩
  · intro i hi j
    rw [frozen_old (hu.block _ (hd.mm.lt hi) (hZb i hi))]
    exact hd.mm.frz hi j
  · intro k e hk
    obtain ⟨n, vals, o1, o2⟩ := hd.mm.own hk
    refine ⟨n, vals, ⟨o1.1, ?_⟩, o2⟩
    rcases o1.2 with h | ⟨gg, cap, cur, h0, h1, h2, h3⟩
    · exact .inl h
    · refine .inr ⟨gg, cap, cur, h0, h1, ?_, h3⟩
      have hne := hZo k e gg hk (by rw [h0]; rfl)
      rw [hu.block _ (Array.getElem?_eq_some_iff.1 h2).1 hne]
      exact h2
  · obtain ⟨u, hc⟩ := hd.mm.Lc h
    exact ⟨u, hu.cell hc (hZL h)⟩
  · rw [hu.block _ (hd.mm.lt hi) (hZb i hi)]
    exact hd.mm.bc hi
theorem freeE_at {ws : List Nat} : ∀ {env : List (Nat × T)} {p : Nat × T}, freeE ws env = true → p ∈ env → p.1 ∉ ws
  | [], _, _, h => by cases h
  | q :: r, p, h, hp => by
    rw [freeE, Bool.and_eq_true] at h
    rcases List.mem_cons.1 hp with rfl | hp
    · intro hm
      have h1 := h.1
      rw [Bool.not_eq_true', ← Bool.not_eq_true] at h1
      exact h1 (List.any_eq_true.2 ⟨_, hm, Nat.beq_refl _⟩)
    · exact freeE_at h.2 hp
/-- the frame's slots, as they were -/
theorem Hd.act {st : St} {a a' : Act} {w : World} {g : Gh} {ws : List Nat} (hd : Hd P X base S st a w g) (hf : freeE ws st.env = true) (hsz : a'.tmps.size = a.tmps.size) (hk : ∀ t, t ∉ ws → a'.tmps.getD t undef = a.tmps.getD t undef) : Hd P X base S st a' w g := by
  refine ⟨hsz.trans hd.sz, fun t => ?_, hd.mm, hd.E, hd.le⟩
  have h0 := hd.env t
  unfold tget at h0 ⊢
  cases ht : lk t st.env with
  | none => trivial
  | some x =>
    rw [ht] at h0
    have hfr := freeE_at hf (lk_mem ht)
    show RepT P w g x (a'.tmps.getD t undef)
    rw [hk t hfr]
    exact h0
theorem Hd.puts {a : Act} {w : World} {g : Gh} : ∀ (ps : List Nat) (vs : List V) (us : List Value) (st : St) (a : Act), Hd P X base S st a w g → (∀ p ∈ ps, p < st.n) → vs.length = ps.length → RepL w g.L vs us → Hd P X base S (st.puts ps vs) { a with tmps := (ps.zip us).foldl (fun t (p : Nat × Value) => t.setIfInBounds p.1 p.2) a.tmps } w g
  | [], [], us, st, a, hd, _, _, hr => by rw [show us = [] from hr]; exact hd
  | p :: ps, v :: vs, us, st, a, hd, hp, hl, hr => by
    obtain ⟨u, us', rfl, _, h1, h2⟩ := hr
    have h3 := hd.put (some p) (t := .v v) (v := u) h1
    rw [St.put_lt (hp p (by simp))] at h3
    exact Hd.puts (a := a) ps vs us' { st with env := (p, .v v) :: st.env } (a.put (some p) u) h3 (fun q hq => hp q (by simp [hq])) (by simpa using hl) h2
  | [], _ :: _, _, _, _, _, _, hl, _ => by simp at hl
  | _ :: _, [], _, _, _, _, _, hl, _ => by simp at hl
theorem foldl_keep : ∀ (l : List (Nat × Value)) (a : Array Value) (t : Nat), (∀ p ∈ l, p.1 ≠ t) → (l.foldl (fun t (p : Nat × Value) => t.setIfInBounds p.1 p.2) a).getD t undef = a.getD t undef
  | [], _, _, _ => rfl
  | p :: r, a, t, h => by
    rw [List.foldl_cons, foldl_keep r _ t (fun q hq => h q (by simp [hq]))]
    simp [Array.getElem?_setIfInBounds_ne (h p (by simp))]
theorem foldl_size : ∀ (l : List (Nat × Value)) (a : Array Value), (l.foldl (fun t (p : Nat × Value) => t.setIfInBounds p.1 p.2) a).size = a.size
  | [], _ => rfl
  | p :: r, a => by rw [List.foldl_cons, foldl_size r]; simp

def codeOf : Exit → Option Code
  | .exit j => some (.exit j)
  | .ret => some .ret
  | _ => none
theorem rndQ_exit {ws : List Nat} {ok : Prop} {next : St} {Q : Exit → St → Prop} {e : Exit} {st : St} (h : rndQ ws ok next Q e st) (hn : e ≠ .normal) : ∃ σ st', Wk σ st st' ∧ freeE ws st'.env = true ∧ Q e st' ∧ (codeOf e).isSome = true := by
  cases e with
  | normal => exact absurd rfl hn
  | exit j => obtain ⟨σ, st', h1, h2, h3⟩ := h; exact ⟨σ, st', h1, h2, h3, rfl⟩
  | ret => obtain ⟨σ, st', h1, h2, h3⟩ := h; exact ⟨σ, st', h1, h2, h3, rfl⟩
  | goto l => exact h.elim
  | panic c => exact h.elim
  | outgrown => exact h.elim
/-- what a frame and its world hold to while an iterator runs -/
structure RunJ (P : Program) (X : En) (base : Nat) (S : Nat → Prop) (N : Nat) (a : Act) (w : World) (g : Gh) (lw : Nat) (mk : Option Nat) (st : St) (Z : Nat → Prop) (W : World) (g' : Gh) : Prop where
  hd : Hd P X base S st a W g'
  n : st.n = N
  stp : Stp X base S N w g W g'
  lwle : lw ≤ W.heap.size
  mark : ∀ r, mk = some r → w.heap.size ≤ r ∧ r < lw ∧ W.heap[r]? = some (.deferred (some []))
  box : ∀ i, isK st.bs i → ¬ Z (g'.ρ i).1
  see : ∀ {b o}, g'.L b o → ¬ Z b
  own : ∀ k e b, lget st.lv k = some e → (g'.κ k).ownBlock = some b → ¬ Z b
  from_ : ∀ b, Z b → (lw ≤ b ∧ b < W.heap.size) ∧ ¬ X.Eb b
theorem RunJ.upd {a : Act} {w : World} {g : Gh} {lw : Nat} {mk : Option Nat} {st : St} {Z : Nat → Prop} {W W' : World} {g' : Gh} (h : RunJ P X base S N a w g lw mk st Z W g') (hbl : base ≤ lw) (hwl : w.heap.size ≤ lw) (hu : Upd Z W W') : RunJ P X base S N a w g lw mk st (fun b => Z b ∨ (W.heap.size ≤ b ∧ b < W'.heap.size)) W' g' := by
  refine ⟨h.hd.upd hu h.box h.see h.own (fun b hb => (h.from_ b hb).2), h.n, ⟨?_, fun b o u h1 h2 => ?_, h.stp.newL, h.stp.rho, fun {k o} hk hc => ?_⟩, Nat.le_trans h.lwle hu.size, fun r hr => ?_, fun i hi => ?_, fun hL => ?_, fun k e b hk hb => ?_, fun b hb => ?_⟩
  · refine h.stp.upd.trans (hu.mono fun b hb => .inr (Nat.le_trans hbl (h.from_ b hb).1.1))
  · obtain ⟨h3, h4⟩ := h.stp.same b o u h1 h2
    exact ⟨h3, hu.cell h4 (h.see h3)⟩
  · have h1 := h.stp.obj hk hc
    exact hu.blk h1 (fun hz => by have := (h.from_ k hz).1.1; have := (Array.getElem?_eq_some_iff.1 hk).1; omega)
  · obtain ⟨m1, m2, m3⟩ := h.mark r hr
    exact ⟨m1, m2, hu.blk m3 (fun hz => by have := (h.from_ r hz).1.1; omega)⟩
  · rintro (hz | ⟨hz, _⟩)
    · exact h.box i hi hz
    · have := h.hd.mm.lt hi; omega
  · rintro (hz | ⟨hz, _⟩)
    · exact h.see hL hz
    · have := h.hd.mm.Llt hL; omega
  · rintro (hz | ⟨hz, _⟩)
    · exact h.own k e b hk hb hz
    · obtain ⟨n0, vals, o1, _⟩ := h.hd.mm.own hk
      have := (o1.lt b hb).2
      omega
  · rcases hb with hb | ⟨hb, hb2⟩
    · exact ⟨⟨(h.from_ b hb).1.1, Nat.lt_of_lt_of_le (h.from_ b hb).1.2 hu.size⟩, (h.from_ b hb).2⟩
    · exact ⟨⟨Nat.le_trans h.lwle hb, hb2⟩, fun hE => by have := X.lt h.hd.E hE; omega⟩
/-- more may be seen -/
theorem Hd.see {st : St} {a : Act} {w : World} {g : Gh} {L' : Lv} (hd : Hd P X base S st a w g) (hsub : ∀ {b o}, g.L b o → L' b o) (hb : ∀ i o, isK st.bs i → ¬ L' (g.ρ i).1 o) (ho : ∀ k e b o, lget st.lv k = some e → (g.κ k).ownBlock = some b → L' b o → g.L b o) (hlt : ∀ {b o}, L' b o → ∃ u, w.cell? ⟨b, o, none⟩ = some u) : Hd P X base S st a w { g with L := L' } := by
  have hs : Same g.L w L' w := fun b o u h1 h2 => ⟨hsub h1, h2⟩
  refine ⟨hd.sz, fun t => (hd.env t).same (g' := { g with L := L' }) hs rfl rfl, ⟨?_, hd.mm.frz, fun hi o => hb _ o hi, hd.mm.bxE, hd.mm.loc, hd.mm.lt, hd.mm.inj, ?_, hd.mm.ownInj, hlt, hd.mm.bc, hd.mm.ownE⟩, hd.E, hd.le⟩
  · intro i cs hi j c hj
    obtain ⟨u, hu, hr, h1⟩ := hd.mm.box hi hj
    exact ⟨u, hu, hr.same (g' := { g with L := L' }) hs rfl rfl, h1⟩
  · intro k e hk
    obtain ⟨n, vals, o1, o2⟩ := hd.mm.own hk
    exact ⟨n, vals, o1, fun b hbb => ⟨fun o h => (o2 b hbb).1 o (ho k e b o hk hbb h), (o2 b hbb).2⟩⟩
/-- what is kept of others' memory -/
def En.plus (X : En) (Z : Nat → Prop) (W0 : World) : En where
  E := fun w => X.E w ∧ ∀ b, Z b → w.heap[b]? = W0.heap[b]? ∧ b < w.heap.size
  Eb := fun b => X.Eb b ∨ Z b
  lt := fun {w b} h hb => hb.elim (X.lt h.1) fun hz => (h.2 b hz).2
  upd := fun {S w w'} hu hS h => ⟨X.upd hu (fun b hb hE => hS b hb (.inl hE)) h.1, fun b hz => by
    obtain ⟨h1, h2⟩ := h.2 b hz
    exact ⟨(hu.block b h2 (fun hs => hS b hs (.inr hz))).trans h1, Nat.lt_of_lt_of_le h2 hu.size⟩⟩
theorem Hd.plus {st : St} {a : Act} {w : World} {g : Gh} {Z : Nat → Prop} (hd : Hd P X base S st a w g) (hZ : ∀ b, Z b → b < w.heap.size) (hZb : ∀ i, isK st.bs i → ¬ Z (g.ρ i).1) (hZo : ∀ k e b, lget st.lv k = some e → (g.κ k).ownBlock = some b → ¬ Z b) : Hd P (X.plus Z w) base S st a w g :=
  ⟨hd.sz, hd.env, ⟨hd.mm.box, hd.mm.frz, hd.mm.bxL, fun hi h => h.elim (hd.mm.bxE hi) (hZb _ hi), hd.mm.loc, hd.mm.lt, hd.mm.inj, hd.mm.own, hd.mm.ownInj, hd.mm.Lc, hd.mm.bc, fun hk hb h => h.elim (hd.mm.ownE hk hb) (hZo _ _ _ hk hb)⟩, ⟨hd.E, fun b hz => ⟨rfl, hZ b hz⟩⟩, hd.le⟩
theorem Hd.minus {st : St} {a : Act} {w : World} {g : Gh} {Z : Nat → Prop} {W0 : World} (hd : Hd P (X.plus Z W0) base S st a w g) : Hd P X base S st a w g :=
  ⟨hd.sz, hd.env, ⟨hd.mm.box, hd.mm.frz, hd.mm.bxL, fun hi h => hd.mm.bxE hi (.inl h), hd.mm.loc, hd.mm.lt, hd.mm.inj, hd.mm.own, hd.mm.ownInj, hd.mm.Lc, hd.mm.bc, fun hk hb h => hd.mm.ownE hk hb (.inl h)⟩, hd.E.1, hd.le⟩
end Go.Proofs.YtjmpkbmgcbalkaaGreatDoor
