/- A list of texts that is the function's own, and texts appended to it: where it lies then. Conditions: the shape of memory that each theorem names. -/
import Derived.Test.YtglmnglaliljdaaDoorFrameI
import Derived.Deep.Upon
namespace Go.Proofs.YtglmnglaliljdaaDoor.Frame
open Go.RowKit Size
set_option linter.unusedVariables false
def sv (l : List ByteArray) : List Value := l.map .string
theorem sv_len (l : List ByteArray) : (sv l).length = l.length := by simp [sv]
theorem sv_app (l m : List ByteArray) : sv (l ++ m) = sv l ++ sv m := by simp [sv]
theorem sv_one (l : List ByteArray) : ∀ u ∈ sv l, u.oneCell' = true := by
  intro u hu
  obtain ⟨s, _, rfl⟩ := List.mem_map.1 hu
  rfl
/-- a list of texts that is the function's own, in a block from base on -/
abbrev Own (w : World) (base : Nat) (v : Value) (l : List ByteArray) : Prop := w.ownsRow base 9 1 v l.length (sv l)
theorem own_rs {w : World} {base : Nat} {v : Value} {l : List ByteArray} (h : Own w base v l) : RS w (fun b => base ≤ b ∧ some b = v.ownBlock) v l := by
  rcases h.2 with ⟨rfl, h0⟩ | ⟨g, cap, cur, rfl, hb, hh, _⟩
  · have : l = [] := List.eq_nil_of_length_eq_zero h0
    subst this
    exact ⟨none, 0, rfl, fun h => absurd rfl h⟩
  · refine ⟨some ⟨g, 0, none⟩, cap, rfl, fun _ => ⟨g, 0, rfl, ⟨hb, rfl⟩, fun j s hs => ?_⟩⟩
    have h1 := h.cells (g := g) rfl j (.string s) (by rw [sv, List.getElem?_map, hs]; rfl)
    rw [add_plain] at h1
    rwa [Nat.zero_add]
theorem append_texts {w : World} {base : Nat} {v : Value} {xs : List ByteArray} (hown : Own w base v xs) {av : Nat → Prop} {xv : Value} {ys : List ByteArray} (hr : RS w av xv ys) (hn : xs.length + ys.length ≤ 1000000000) (hb : base ≤ w.heap.size) (ty : TypeId) :
    ∃ v' w', (Builtin.append_ #[22, 22] ty #[v, xv]).run Tryd.prog w = .ok v' w' ∧ Own w' base v' (xs ++ ys) ∧ w.grownBy w' v.ownBlock ∧ (v'.ownBlock = v.ownBlock ∨ v'.ownBlock = some w.heap.size) := by
  obtain ⟨i0, hi, hz⟩ := Option.map_eq_some_iff.1 (show (Tryd.prog.info? 9).map (fun i => (i.zero, i.size, i.bytes)) = some (some (.string ⟨#[]⟩), 1, 16) by kernel_rfl)
  simp only [Prod.mk.injEq] at hz
  obtain ⟨hz0, hz1, hz2⟩ := hz
  obtain ⟨A, c, rfl, hx⟩ := hr
  by_cases hy : ys = []
  · subst hy
    obtain ⟨B, n, cap, rfl, hle, hnn⟩ : ∃ B n cap, v = .slice B n cap ∧ n ≤ cap ∧ n = xs.length := by
      rcases hown.2 with ⟨rfl, h0⟩ | ⟨g, cap, cur, rfl, _, _, hnc, _⟩
      · exact ⟨none, 0, 0, rfl, Nat.le_refl _, h0.symm⟩
      · exact ⟨_, _, _, rfl, hnc, rfl⟩
    subst hnn
    refine ⟨_, w, run_append_nothing w 22 22 ty 9 i0 Tryd.underlying22 hi B xs.length cap hle _ ?_, by rw [List.append_nil]; exact hown, grown_refl _ _, .inl rfl⟩
    cases A with
    | none => exact Src.ofNil w Tryd.underlying22 c
    | some ad => exact Src.ofSlice w Tryd.underlying22 ad 0 c [] (by simp) (fun j u hu => by simp at hu) (fun u hu => by cases hu)
  · obtain ⟨b, o, rfl, _, hc⟩ := hx hy
    have hnews : ∀ j u, (sv ys)[j]? = some u → w.cell? ((⟨b, o, none⟩ : Addr).add j) = some u := fun j u hu => by
      rw [sv, List.getElem?_map] at hu
      obtain ⟨s, hs, rfl⟩ := Option.map_eq_some_iff.1 hu
      rw [show (⟨b, o, none⟩ : Addr).add j = ⟨b, o + j, none⟩ by unfold Addr.add; split <;> simp_all]
      exact hc j s hs
    have hpos : 0 < ys.length := List.length_pos_iff.2 hy
    obtain ⟨v', w', h1, h2, h3, _⟩ := run_append_own w base 22 ty 9 i0 (.string ⟨#[]⟩) 1 16 Tryd.underlying22 hi hz0 hz1 hz2 rfl (by decide) v xs.length (sv xs) hown ⟨b, o, none⟩ ys.length c (sv ys) (by rw [sv_len, Nat.mul_one]) hnews (sv_one ys) (by unfold maxLen; omega) (by omega) hb
    refine ⟨v', w', h1, by unfold Own; rw [List.length_append, sv_app]; exact h2, h3, ?_⟩
    rcases hown.2 with ⟨rfl, h0⟩ | ⟨g, cap, cur, rfl, hbg, hg, hnc, hcm, hcs, htake⟩
    · have hr := run_append_nil (P := Tryd.prog) w 22 ty 9 i0 (.string ⟨#[]⟩) Tryd.underlying22 hi hz0 ⟨b, o, none⟩ ys.length c (sv ys) (by rw [sv_len, hz1, Nat.mul_one]) hnews hpos (by omega) (by rw [hz2]; omega)
      rw [hr] at h1
      cases h1
      exact .inr rfl
    · by_cases hroom : xs.length + ys.length ≤ cap
      · have hr := run_append_room (P := Tryd.prog) w 22 ty 9 i0 Tryd.underlying22 hi g xs.length cap cur hg ⟨b, o, none⟩ ys.length c (sv ys) (by rw [sv_len, hz1, Nat.mul_one]) hnews (sv_one ys) hroom (by rw [hz1, sv_len, hcs]; omega)
        rw [hr] at h1
        cases h1
        exact .inl rfl
      · have hr := run_append_grow (P := Tryd.prog) w 22 ty 9 i0 (.string ⟨#[]⟩) Tryd.underlying22 hi hz0 ⟨g, 0, none⟩ xs.length cap (sv xs) (by rw [sv_len, hz1, Nat.mul_one]) (hown.cells (g := g) rfl) ⟨b, o, none⟩ ys.length c (sv ys) (by rw [sv_len, hz1, Nat.mul_one]) hnews (by omega) (by omega) (growslice_fits (by omega) (by rw [hz2]; omega))
        rw [hr] at h1
        cases h1
        exact .inr rfl
theorem wpList_texts {w : World} {ops : Array Oper} {rest : List Oper} {o : Oper} {a : Act} {Q : Exit → Act → World → Prop} (hgd : o.guard = none) (s x : Operand)
    (ho : o.op = .call { callee := .builtin .append, args := #[s, x], argTypes := #[22, 22] })
    {base : Nat} {v : Value} {xs : List ByteArray} (hs : a.eval s = v) (hown : Own w base v xs) {av : Nat → Prop} {xv : Value} {ys : List ByteArray} (hx : a.eval x = xv) (hr : RS w av xv ys) (hn : xs.length + ys.length ≤ 1000000000) (hb : base ≤ w.heap.size)
    (h : ∀ v' w', Own w' base v' (xs ++ ys) → w.grownBy w' v.ownBlock → (v'.ownBlock = v.ownBlock ∨ v'.ownBlock = some w.heap.size) → wpList Tryd.prog ops Q rest (a.put o.dst v') w') : wpList Tryd.prog ops Q (o :: rest) a w := by
  refine wpList_plain hgd fun K hK => ?_
  obtain ⟨v', w', hrun, h1, h2, h3⟩ := append_texts hown hr hn hb o.type
  unfold Oper.wp
  simp [execOp, ho, resolve, invoke, builtin, hs, hx, hrun, Result.andThen]
  exact hK _ _ (h v' w' h1 h2 h3)
end Go.Proofs.YtglmnglaliljdaaDoor.Frame
