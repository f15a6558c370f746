/- latinerref14.(*Framer).State, latinerlaw14.same. Conditions: the shape of memory that each theorem names. -/
import Derived.Test.YtglmnglaliljdaaDoorFrameY
namespace Go.Proofs.YtglmnglaliljdaaDoor.Frame
open Go.RowKit Size
set_option linter.unusedVariables false
theorem refState {w : World} {f : Nat} {l : List UInt8} {a c : Int} (h : RF w f l a c) :
    Calls Tryd.prog 24 #[.pointer (some ⟨f, 0, none⟩)] w fun e w' => e = .returned (.int .i64 (stateOf l c)) ∧ Below w.heap.size w w' := by
  have c0 : w.cell? ⟨f, 0, none⟩ = some (.string (ba l)) := cel h 0 rfl
  have c2 : w.cell? ⟨f, 2, none⟩ = some (.int .i64 c) := cel h 2 rfl
  clear h
  unfold stateOf
  by_cases hc : c = 0
  · subst hc
    cases l with
    | nil =>
      have e : ba [] = ⟨#[]⟩ := rfl
      rw [e] at c0
      go_enter Tryd.func24, Tryd.ntmps24
      go_wp2
      go_ret
      exact ⟨rfl, Below.refl _ _⟩
    | cons u r =>
      have e := not_empty (ba (u :: r)) (by rw [show (ba (u :: r)).size = (u :: r).length from size_list _]; simp)
      generalize ba (u :: r) = x at c0 e
      go_enter Tryd.func24, Tryd.ntmps24
      go_wp2
      go_ret
      exact ⟨rfl, Below.refl _ _⟩
  · have q : (c != 0) = true := by simp [hc]
    rw [if_pos hc]
    clear hc
    go_enter Tryd.func24, Tryd.ntmps24
    go_wp2
    go_ret
    exact ⟨rfl, Below.refl _ _⟩
set_option maxRecDepth 100000 in
set_option maxHeartbeats 2000000 in
theorem same {w : World} {av : Nat → Prop} {f g : Nat} {l : List UInt8} {a c : Int} {p : Nat → Addr} (h : FS w av f l a c p) (hG : Globs w p) (hR : RF w g l a c) :
    Calls Tryd.prog 13 #[.pointer (some ⟨f, 0, none⟩), .pointer (some ⟨g, 0, none⟩)] w fun e w' => e = .returned (.bool true) ∧ Below w.heap.size w w' := by
  have F0 := Aside.mk h
  have G0 := Aside.mk hG
  have R0 := Aside.mk hR
  have hsz : (ba l).size = l.length := size_list l
  clear h hG hR
  have c0 : w.cell? ⟨g, 0, none⟩ = some (.string (ba l)) := cel R0.out 0 rfl
  have c1 : w.cell? ⟨g, 1, none⟩ = some (.int .i64 a) := cel R0.out 1 rfl
  have c2 : w.cell? ⟨g, 2, none⟩ = some (.int .i64 c) := cel R0.out 2 rfl
  have P0 := Aside.mk (And.intro F0.out (And.intro G0.out (And.intro R0.out (Below.refl w.heap.size w))))
  go_enter Tryd.func13, Tryd.ntmps13
  go_wp2_with fail
  have D0 := Aside.mk (And.intro (F0.out.below (below_drew w)) (And.intro (G0.out.below (below_drew w)) (And.intro (show RF w.drew g l a c from R0.out) (below_drew w))))
  go_region_held3 (fun w' => w'.cell? ⟨g, 0, none⟩ = some (.string (ba l)) ∧ w'.cell? ⟨g, 1, none⟩ = some (.int .i64 a) ∧ w'.cell? ⟨g, 2, none⟩ = some (.int .i64 c) ∧ Aside (FS w' av f l a c p ∧ Globs w' p ∧ RF w' g l a c ∧ Below w.heap.size w w')) (first | exact ⟨c0, c1, c2, D0⟩ | exact ⟨cel HN.out.2.2.1 0 rfl, cel HN.out.2.2.1 1 rfl, cel HN.out.2.2.1 2 rfl, HN⟩)
    (first
      | (go_at_call 16; have hA := (by assumption : (_ ∧ _ ∧ _ ∧ Aside _)).2.2.2; refine (state hA.out.1 hA.out.2.1).mono ?_; rintro e w1 ⟨rfl, hb⟩; have HN := Aside.mk (And.intro (hA.out.1.below hb) (And.intro (hA.out.2.1.below hb) (And.intro (show RF w1 g l a c from blk_below hA.out.2.2.1 hb) (below_then hA.out.2.2.2 hb)))); clear hb hA)
      | (go_at_call 24; have hA := (by assumption : (_ ∧ _ ∧ _ ∧ Aside _)).2.2.2; refine (refState hA.out.2.2.1).mono ?_; rintro e w1 ⟨rfl, hb⟩; have HN := Aside.mk (And.intro (hA.out.1.below hb) (And.intro (hA.out.2.1.below hb) (And.intro (show RF w1 g l a c from blk_below hA.out.2.2.1 hb) (below_then hA.out.2.2.2 hb)))); clear hb hA)
      | (go_at_call 14; have hA := (by assumption : (_ ∧ _ ∧ _ ∧ Aside _)).2.2.2; refine (kept hA.out.1).mono ?_; rintro e w1 ⟨rfl, hb⟩; have HN := Aside.mk (And.intro (hA.out.1.below hb) (And.intro (hA.out.2.1.below hb) (And.intro (show RF w1 g l a c from blk_below hA.out.2.2.1 hb) (below_then hA.out.2.2.2 hb)))); clear hb hA)
      | (go_at_call 17; have hA := (by assumption : (_ ∧ _ ∧ _ ∧ Aside _)).2.2.2; refine (offset hA.out.1).mono ?_; rintro e w1 ⟨rfl, hb⟩; have HN := Aside.mk (And.intro (hA.out.1.below hb) (And.intro (hA.out.2.1.below hb) (And.intro (show RF w1 g l a c from blk_below hA.out.2.2.1 hb) (below_then hA.out.2.2.2 hb)))); clear hb hA)
      | (go_at_call 18; have hA := (by assumption : (_ ∧ _ ∧ _ ∧ Aside _)).2.2.2; refine (error hA.out.1 hA.out.2.1).mono ?_; rintro e w1 ⟨rfl, hb⟩; have HN := Aside.mk (And.intro (hA.out.1.below hb) (And.intro (hA.out.2.1.below hb) (And.intro (show RF w1 g l a c from blk_below hA.out.2.2.1 hb) (below_then hA.out.2.2.2 hb)))); clear hb hA))
  all_goals
    have hA := (by assumption : (_ ∧ _ ∧ _ ∧ Aside _)).2.2.2
    have hBl := Aside.mk hA.out.2.2.2
    go_wp2
    go_ret
    exact ⟨rfl, hBl.out⟩
end Go.Proofs.YtglmnglaliljdaaDoor.Frame
