/- A range over a function, in line: the loop's statement by the walk of the function that is ranged over, a call of yield by the walk of the body. Laws of whatever program; conditions: the loop's record lies where it was laid. -/
import Derived.RangeFuncNested
import Derived.RangeFuncBound
import Derived.RangeFuncCalls
import Derived.RangeFuncLeaves
import Derived.Shelf.Abstract
import Derived.WalkKit
import Derived.OwnWalkIn
import Derived.TacticsInMore
import Derived.LoopNIn
import Derived.LoopIn
import Derived.Below
namespace Go.Proofs.YtglmnglaliljdaaDoor.Rng
open Go.RowKit Go.Shelf
set_option linter.unusedVariables false
variable {P : Program}
/-- the record of a loop: its state and the jump that waits -/
structure Rec where
  fn : FuncId
  tmps : Array Value
  params : Array Tmp
  assign : Code
  body : Code
  defers : Nat
def Rec.at (r : Rec) (st : LoopState) (pe : Option Code) : Obj := .loop { state := st, pending := pe, fn := r.fn, tmps := r.tmps, params := r.params, assign := r.assign, body := r.body, defers := r.defers }
/-- THE STATEMENT, outside of rounds. -/
theorem wp_range {n : Nat} {g : Operand} {ps : Array Tmp} {assign body : Code} {Q : Exit → Act → World → Prop} {a : Act} {w : World} {gf : Nat} {lb : Array Value}
    (hg : a.eval g = .func (.func gf) #[] lb) (eg : ∀ args w, (callFunc gf args).run P w = .ok (.enter gf args) w)
    (h : ∀ fn, Calls P gf (#[.func (.yield (w.heap.size + 1)) #[] #[]] ++ lb) ((w.alloc (.deferred (some []))).alloc (Rec.at ⟨fn, a.tmps, ps, assign, body, w.heap.size⟩ .ready none)) fun e w3 =>
      (∃ v, e = .returned v) ∧ ∃ st pe, st ≠ .busy ∧ w3.heap[w.heap.size + 1]? = some (Rec.at ⟨fn, a.tmps, ps, assign, body, w.heap.size⟩ st pe) ∧
        (match pe with
         | none => Q .normal { a with defers := { target := .collected w.heap.size, args := #[] } :: a.defers } (w3.putObj (w.heap.size + 1) (Rec.at ⟨fn, a.tmps, ps, assign, body, w.heap.size⟩ .exhausted pe))
         | some c => c.wp P Q { a with defers := { target := .collected w.heap.size, args := #[] } :: a.defers } (w3.putObj (w.heap.size + 1) (Rec.at ⟨fn, a.tmps, ps, assign, body, w.heap.size⟩ .exhausted pe)))) :
    (Code.rangeFunc g ps assign body).wp P Q a w := by
  refine (wpIn_wide (n := n)).1 (wpIn_rangeFunc fun fn _ => ?_)
  refine ⟨w.heap.size + 1, [{ target := .collected w.heap.size, args := #[] }], (w.alloc (.deferred (some []))).alloc (Rec.at ⟨fn, a.tmps, ps, assign, body, w.heap.size⟩ .ready none), { target := .fn (.func gf) lb, args := #[.func (.yield (w.heap.size + 1)) #[] #[]] }, ((w.alloc (.deferred (some []))).alloc (Rec.at ⟨fn, a.tmps, ps, assign, body, w.heap.size⟩ .ready none)), gf,
    #[.func (.yield (w.heap.size + 1)) #[] #[]] ++ lb, ((w.alloc (.deferred (some []))).alloc (Rec.at ⟨fn, a.tmps, ps, assign, body, w.heap.size⟩ .ready none)), run_enterLoop_outer _ _ _ _ _, ?_, fun f' _ => trivial, ?_, fun h => by simp [Fence.wide] at h, ?_⟩
  · simp only [resolve, hg]
    simp [go_sem]
  · simp [invoke, go_sem, eg]
  · refine callsIn_wide.2 ((h fn).mono ?_)
    rintro e w3 ⟨⟨v, rfl⟩, st, pe, hst, hl, hq⟩
    refine ⟨pe, _, run_endLoop (P := P) hl (by simpa using hst), ?_⟩
    cases pe with
    | none => exact hq
    | some c => exact (wpIn_wide).2 hq
/-- A CALL OF yield: the loop's left sides, the body. -/
theorem round {m l : Nat} {r : Rec} {tmps : Array Value} {W : World} {R : Ending → World → Prop} (hl : W.heap[l]? = some (r.at .ready none))
    (h : r.assign.wpIn (Fence.wide.inRound l) m P (Exit.then (fun a1 W1 => W1.heap[l]? = some (r.at .ready none) ∧
      r.body.wpIn (Fence.wide.inRound l) m P (fun e _ W3 => W3.heap[l]? = some (r.at .busy none) ∧
        match e with
        | .normal => R (.returned (.bool true)) (W3.putObj l (r.at .ready none))
        | .ret => R (.returned (.bool false)) (W3.putObj l (r.at .done (some .ret)))
        | .exit id => R (.returned (.bool false)) (W3.putObj l (r.at .done (some (.exit id))))
        | .goto t => R (.returned (.bool false)) (W3.putObj l (r.at .done (some (.goto t))))
        | _ => False) a1 (W1.putObj l (r.at .busy none))) (fun _ _ _ => False)) { tmps := tmps, defers := [] } W) :
    RoundIn Fence.wide m P l r.fn tmps r.assign r.body W R := by
  refine roundIn_of_wpIn trivial (wpIn_mono h ?_)
  intro e a1 W1 hq
  cases e with
  | normal =>
    obtain ⟨h1, h2⟩ := hq
    refine ⟨_, run_beginRound h1 rfl, wpIn_mono h2 ?_⟩
    intro e a3 W3 hp
    obtain ⟨h3, h4⟩ := hp
    cases e with
    | normal => exact ⟨_, _, run_endRound (P := P) none h3, h4⟩
    | ret => exact ⟨_, _, run_endRound (P := P) (some .ret) h3, h4⟩
    | exit id => exact ⟨_, _, run_endRound (P := P) (some (.exit id)) h3, h4⟩
    | goto t => exact ⟨_, _, run_endRound (P := P) (some (.goto t)) h3, h4⟩
    | panic c => exact h4.elim
    | outgrown => exact h4.elim
  | exit id => exact hq.elim
  | goto t => exact hq.elim
  | ret => exact hq.elim
  | panic c => exact hq.elim
  | outgrown => exact hq.elim
/-- A function that ranges over another one, outside of rounds. -/
theorem calls_of_marks {n : Nat} {f : FuncId} {fn : Func} {c : Code} {args : Array Value} {w : World} {R : Ending → World → Prop}
    (hf : P.funcs[f]? = some fn) (hb : fn.body = some c)
    (h : c.wp P (bodyPostM Fence.wide n P fn R) { tmps := args ++ Array.replicate (fn.ntmps - args.size) undef, defers := [] } w) : Calls P f args w R :=
  callsIn_wide.1 (callsIn_of_wp_marks (n := n) hf hb trivial (wpIn_wide.2 h))
end Go.Proofs.YtglmnglaliljdaaDoor.Rng
