/- frame: a Framer in memory; Kept, Offset, Error, State, New. Conditions: the shape of memory that each theorem names. -/
import Derived.Test.YtglmnglaliljdaaDoorSizeE
import Derived.Test.YtglmnglaliljdaaDoorToldFrame
namespace Go.Proofs.YtglmnglaliljdaaDoor.Frame
open Go.RowKit Size
set_option linter.unusedVariables false
/-- a slice of bytes that reads as a list; its bytes lie in a block that av lets by -/
def RB (w : World) (av : Nat → Prop) (v : Value) (l : List UInt8) : Prop :=
  ∃ A c, v = .slice A l.length c ∧ l.length ≤ c ∧ c ≤ maxLen ∧ (l ≠ [] → ∃ b o, A = some ⟨b, o, none⟩ ∧ av b ∧ ∀ j u, l[j]? = some u → w.cell? ⟨b, o + j, none⟩ = some (.int .u8 u.toNat))
theorem RB.grown {w w' : World} {av : Nat → Prop} {v : Value} {l : List UInt8} (h : RB w av v l) {row : Option Nat} (hg : w.grownBy w' row) (hr : ∀ b, av b → some b ≠ row) : RB w' av v l := by
  obtain ⟨A, c, e, hc, hm, hx⟩ := h
  refine ⟨A, c, e, hc, hm, fun hl => ?_⟩
  obtain ⟨b, o, e2, hav, hcell⟩ := hx hl
  exact ⟨b, o, e2, hav, fun j u hu => cell_grown (hcell j u hu) hg (hr b hav)⟩
theorem RB.below {w w' : World} {av : Nat → Prop} {v : Value} {l : List UInt8} (h : RB w av v l) (hb : Below w.heap.size w w') : RB w' av v l := h.grown (grown_of_below hb none) (by simp)
theorem RB.mono {w : World} {av av' : Nat → Prop} {v : Value} {l : List UInt8} (h : RB w av v l) (hi : ∀ b, av b → av' b) : RB w av' v l := by
  obtain ⟨A, c, e, hc, hm, hx⟩ := h
  refine ⟨A, c, e, hc, hm, fun hl => ?_⟩
  obtain ⟨b, o, e2, hav, hcell⟩ := hx hl
  exact ⟨b, o, e2, hi b hav, hcell⟩
/-- the error that a Framer holds, and its number (0: nothing is wrong) -/
def ErrV (p : Nat → Addr) (c : Int) (v : Value) : Prop :=
  (c = 0 ∧ (v = .nilIface ∨ ∃ n, v = .iface 62 (.agg #[.int .i64 n, .iface 120 (.pointer (some (p 3)))]))) ∨
  (c = 20 ∧ ∃ n, v = .iface 62 (.agg #[.int .i64 n, .iface 120 (.pointer (some (p 0)))])) ∨
  (c = 11 ∧ ∃ n, v = .iface 62 (.agg #[.int .i64 n, .iface 120 (.pointer (some (p 1)))])) ∨
  (c = 131 ∧ ∃ n, v = .iface 62 (.agg #[.int .i64 n, .iface 120 (.pointer (some (p 2)))]))
theorem ErrV.told {p : Nat → Addr} {c : Int} {v : Value} (h : ErrV p c v) (w : World) (hG : Globs w p) :
    Calls Tryd.prog 20 #[v] w fun e w' => e = .returned (.int .i64 c) ∧ Below w.heap.size w w' := by
  rcases h with ⟨rfl, rfl | ⟨n, rfl⟩⟩ | ⟨rfl, n, rfl⟩ | ⟨rfl, n, rfl⟩ | ⟨rfl, n, rfl⟩
  · exact ToldFrame.told_nil w
  · exact ToldFrame.told_errMore n w p hG
  · exact ToldFrame.told_errTag n w p hG
  · exact ToldFrame.told_errForm n w p hG
  · exact ToldFrame.told_errLarge n w p hG
/-- a Framer at block f -/
def FS (w : World) (av : Nat → Prop) (f : Nat) (l : List UInt8) (ahead : Int) (c : Int) (p : Nat → Addr) : Prop :=
  ∃ v ev, w.heap[f]? = some (.cells #[v, .int .i64 ahead, ev] 51 (0, 0)) ∧ RB w (fun b => av b ∧ b ≠ f) v l ∧ ErrV p c ev
theorem FS.grown {w w' : World} {av : Nat → Prop} {f : Nat} {l : List UInt8} {a c : Int} {p : Nat → Addr} (h : FS w av f l a c p) {row : Option Nat} (hg : w.grownBy w' row) (hf : some f ≠ row) (hr : ∀ b, av b → some b ≠ row) : FS w' av f l a c p := by
  obtain ⟨v, ev, hb, hrb, he⟩ := h
  exact ⟨v, ev, blk_grown hb hg hf, hrb.grown hg (fun b hb => hr b hb.1), he⟩
theorem FS.below {w w' : World} {av : Nat → Prop} {f : Nat} {l : List UInt8} {a c : Int} {p : Nat → Addr} (h : FS w av f l a c p) (hb : Below w.heap.size w w') : FS w' av f l a c p := h.grown (grown_of_below hb none) (by simp) (by simp)
theorem new (w : World) (p : Nat → Addr) (av : Nat → Prop) :
    Calls Tryd.prog 9 #[] w fun e w' => e = .returned (.pointer (some ⟨w.heap.size, 0, none⟩)) ∧ Below w.heap.size w w' ∧ FS w' av w.heap.size [] 0 0 p ∧ w.heap.size < w'.heap.size := by
  go_enter Tryd.func9, Tryd.ntmps9
  go_wp2
  go_ret
  refine ⟨rfl, below_new _ _, ?_, by simp⟩
  exact ⟨_, _, World.alloc_heap_new _ _, ⟨none, 0, rfl, by simp, by simp, fun h => absurd rfl h⟩, .inl ⟨rfl, .inl rfl⟩⟩
theorem kept {w : World} {av : Nat → Prop} {f : Nat} {l : List UInt8} {a c : Int} {p : Nat → Addr} (h : FS w av f l a c p) :
    Calls Tryd.prog 14 #[.pointer (some ⟨f, 0, none⟩)] w fun e w' => e = .returned (.int .i64 l.length) ∧ Below w.heap.size w w' := by
  obtain ⟨v, ev, hb, ⟨A, cp, rfl, hc, _, hx⟩, he⟩ := h
  have c0 : w.cell? ⟨f, 0, none⟩ = some (.slice A l.length cp) := cel hb 0 rfl
  clear hb hx he
  go_enter Tryd.func14, Tryd.ntmps14
  go_wp2
  go_ret
  exact ⟨rfl, Below.refl _ _⟩
theorem offset {w : World} {av : Nat → Prop} {f : Nat} {l : List UInt8} {a c : Int} {p : Nat → Addr} (h : FS w av f l a c p) :
    Calls Tryd.prog 17 #[.pointer (some ⟨f, 0, none⟩)] w fun e w' => e = .returned (.int .i64 a) ∧ Below w.heap.size w w' := by
  obtain ⟨v, ev, hb, hx, he⟩ := h
  have c1 : w.cell? ⟨f, 1, none⟩ = some (.int .i64 a) := cel hb 1 rfl
  clear hb hx he
  go_enter Tryd.func17, Tryd.ntmps17
  go_wp2
  go_ret
  exact ⟨rfl, Below.refl _ _⟩
theorem error {w : World} {av : Nat → Prop} {f : Nat} {l : List UInt8} {a c : Int} {p : Nat → Addr} (h : FS w av f l a c p) (hG : Globs w p) :
    Calls Tryd.prog 18 #[.pointer (some ⟨f, 0, none⟩)] w fun e w' => e = .returned (.int .i64 c) ∧ Below w.heap.size w w' := by
  obtain ⟨v, ev, hb, hx, he⟩ := h
  have c2 : w.cell? ⟨f, 2, none⟩ = some ev := cel hb 2 rfl
  have HT := Aside.mk (he.told w hG)
  clear hb hx he
  go_enter Tryd.func18, Tryd.ntmps18
  go_wp2_with fail
  refine HT.out.mono ?_
  rintro e w1 ⟨rfl, hb⟩
  have H1 := Aside.mk hb
  clear hb c2
  go_wp2
  go_ret
  exact ⟨rfl, H1.out⟩
/-- what State tells -/
def stateOf (l : List UInt8) (c : Int) : Int := if c ≠ 0 then 2 else if l = [] then 0 else 1
theorem state {w : World} {av : Nat → Prop} {f : Nat} {l : List UInt8} {a c : Int} {p : Nat → Addr} (h : FS w av f l a c p) (hG : Globs w p) :
    Calls Tryd.prog 16 #[.pointer (some ⟨f, 0, none⟩)] w fun e w' => e = .returned (.int .i64 (stateOf l c)) ∧ Below w.heap.size w w' := by
  obtain ⟨v, ev, hb, ⟨A, cp, rfl, hc, _, hx⟩, he⟩ := h
  have c0 : w.cell? ⟨f, 0, none⟩ = some (.slice A l.length cp) := cel hb 0 rfl
  have c2 : w.cell? ⟨f, 2, none⟩ = some ev := cel hb 2 rfl
  have HT := Aside.mk (he.told w hG)
  clear hb hx he
  unfold stateOf
  by_cases h0 : c = 0
  · rw [if_neg (by simpa using h0)]
    have q0 : (c != 0) = false := by simp [h0]
    clear h0
    by_cases hl : l = []
    · rw [if_pos hl]
      have ql : decide (0 < l.length) = false := by simp [hl]
      clear hl
      go_enter Tryd.func16, Tryd.ntmps16
      go_wp2_with fail
      refine HT.out.mono ?_
      rintro e w1 ⟨rfl, hb⟩
      have H1 := Aside.mk hb
      have d0 := cell_below c0 hb
      clear hb c2 c0
      go_wp2
      go_ret
      exact ⟨rfl, H1.out⟩
    · rw [if_neg hl]
      have ql : decide (0 < l.length) = true := decide_eq_true (List.length_pos_iff.2 hl)
      have ql2 : 0 < l.length := List.length_pos_iff.2 hl
      clear hl
      go_enter Tryd.func16, Tryd.ntmps16
      go_wp2_with fail
      refine HT.out.mono ?_
      rintro e w1 ⟨rfl, hb⟩
      have H1 := Aside.mk hb
      have d0 := cell_below c0 hb
      clear hb c2 c0
      go_wp2
      go_ret
      exact ⟨rfl, H1.out⟩
  · rw [if_pos (by simpa using h0)]
    have q0 : (c != 0) = true := by simp [h0]
    clear h0
    go_enter Tryd.func16, Tryd.ntmps16
    go_wp2_with fail
    refine HT.out.mono ?_
    rintro e w1 ⟨rfl, hb⟩
    have H1 := Aside.mk hb
    clear hb c2 c0
    go_wp2
    go_ret
    exact ⟨rfl, H1.out⟩
end Go.Proofs.YtglmnglaliljdaaDoor.Frame
