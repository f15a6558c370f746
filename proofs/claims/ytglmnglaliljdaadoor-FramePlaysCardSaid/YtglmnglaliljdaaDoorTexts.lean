/- latinerref08.Texts: are two lists of texts the same? Conditions: both read as lists. -/
import Derived.Test.YtglmnglaliljdaaDoorGlob
import Derived.Deep.LoopGhost
import Derived.Outline
namespace Go.Proofs.YtglmnglaliljdaaDoor
open Go.RowKit
set_option linter.unusedVariables false
/-- a slice of texts that reads as a list -/
def RS (w : World) (av : Nat → Prop) (v : Value) (xs : List ByteArray) : Prop :=
  ∃ A c, v = .slice A xs.length c ∧ (xs ≠ [] → ∃ b o, A = some ⟨b, o, none⟩ ∧ av b ∧ ∀ j s, xs[j]? = some s → w.cell? ⟨b, o + j, none⟩ = some (.string s))
theorem RS.grown {w w' : World} {av : Nat → Prop} {v : Value} {xs : List ByteArray} (h : RS w av v xs) {row : Option Nat} (hb : w.grownBy w' row) (hr : ∀ b, av b → some b ≠ row) : RS w' av v xs := by
  obtain ⟨A, c, e, hx⟩ := h
  refine ⟨A, c, e, fun hn => ?_⟩
  obtain ⟨b, o, e2, ha, hc⟩ := hx hn
  exact ⟨b, o, e2, ha, fun j s hs => cell_grown (hc j s hs) hb (hr b ha)⟩
theorem RS.below {w w' : World} {av : Nat → Prop} {v : Value} {xs : List ByteArray} (h : RS w av v xs) (hb : Below w.heap.size w w') : RS w' av v xs := h.grown (grown_of_below hb none) (by simp)
theorem RS.mono {w : World} {av av' : Nat → Prop} {v : Value} {xs : List ByteArray} (h : RS w av v xs) (hi : ∀ b, av b → av' b) : RS w av' v xs := by
  obtain ⟨A, c, e, hx⟩ := h
  refine ⟨A, c, e, fun hn => ?_⟩
  obtain ⟨b, o, e2, ha, hc⟩ := hx hn
  exact ⟨b, o, e2, hi b ha, hc⟩
theorem RS.len {w : World} {av : Nat → Prop} {v : Value} {xs : List ByteArray} (h : RS w av v xs) : ∃ A c, v = .slice A xs.length c := by
  obtain ⟨A, c, e, _⟩ := h
  exact ⟨A, c, e⟩
theorem RS.at_ {w : World} {av : Nat → Prop} {A : Option Addr} {xs : List ByteArray} (hx : xs ≠ [] → ∃ b o, A = some ⟨b, o, none⟩ ∧ av b ∧ ∀ j s, xs[j]? = some s → w.cell? ⟨b, o + j, none⟩ = some (.string s)) (k : Nat) (hk : k < xs.length) :
    ∃ b o, A = some ⟨b, o, none⟩ ∧ w.cell? ⟨b, o + k, none⟩ = some (.string xs[k]) := by
  obtain ⟨b, o, e, _, hc⟩ := hx (by rintro rfl; simp at hk)
  exact ⟨b, o, e, hc k _ (List.getElem?_eq_getElem hk)⟩
theorem ba_eq {s t : ByteArray} : s.toList = t.toList ↔ s = t := by
  rw [ByteArray.toList_eq, ByteArray.toList_eq]
  constructor
  · intro h
    cases s; cases t
    simpa using h
  · rintro rfl; rfl
set_option maxHeartbeats 1000000 in
theorem texts_len {w : World} {av av' : Nat → Prop} {v u : Value} {xs ys : List ByteArray} (hx : RS w av v xs) (hy : RS w av' u ys) (hn : xs.length ≠ ys.length) :
    Calls Tryd.prog 12 #[v, u] w fun e w' => e = .returned (.bool false) ∧ Below w.heap.size w w' := by
  obtain ⟨A, c, rfl, _⟩ := hx
  obtain ⟨B, d, rfl, _⟩ := hy
  have q0 : ((xs.length : Int) != (ys.length : Int)) = true := by simp; omega
  go_enter Tryd.func12, Tryd.ntmps12
  go_wp2
  go_ret
  exact ⟨rfl, Below.refl _ _⟩
set_option maxHeartbeats 1000000 in
theorem texts_loop {w : World} {av av' : Nat → Prop} {v u : Value} {xs ys : List ByteArray} (hx : RS w av v xs) (hy : RS w av' u ys) (hn : xs.length = ys.length) (hm : xs.length ≤ 100000000) :
    Calls Tryd.prog 12 #[v, u] w fun e w' => e = .returned (.bool (decide (xs = ys))) ∧ Below w.heap.size w w' := by
  obtain ⟨A, c, rfl, hxx⟩ := hx
  obtain ⟨B, d, rfl, hyy⟩ := hy
  have HX := Aside.mk hxx
  have HY := Aside.mk hyy
  have HN := Aside.mk hn
  rw [← hn]
  clear hxx hyy hn
  go_enter Tryd.func12, Tryd.ntmps12
  go_wp2
  go_loopg [5] xs.length (fun gk v wr => ∃ j : Nat, v = .int .i64 j ∧ Aside (j + gk = xs.length ∧ xs.take j = ys.take j ∧ Below w.heap.size w wr))
  case atStart => exact ⟨0, rfl, ⟨by simp, by simp, Below.refl _ _⟩⟩
  case round =>
    obtain ⟨j, rfl, HJ⟩ := hrel
    by_cases hj : j < xs.length
    · obtain ⟨b, o, rfl, cx⟩ := RS.at_ HX.out j hj
      obtain ⟨b2, o2, rfl, cy⟩ := RS.at_ HY.out j (by have := HN.out; omega)
      have cx := cell_below cx HJ.out.2.2
      have cy := cell_below cy HJ.out.2.2
      obtain ⟨s, hs⟩ : ∃ s, s = xs[j] := ⟨_, rfl⟩
      obtain ⟨t, ht⟩ : ∃ t, t = ys[j]'(by have := HN.out; omega) := ⟨_, rfl⟩
      rw [← hs] at cx
      rw [← ht] at cy
      have HS := Aside.mk hs
      have HT := Aside.mk ht
      clear hs ht
      obtain ⟨m, rfl⟩ : ∃ m, gk = m + 1 := ⟨gk - 1, by have := HJ.out.1; omega⟩
      have tx : xs.take (j + 1) = xs.take j ++ [s] := by rw [HS.out, List.take_succ_eq_append_getElem hj]
      have ty : ys.take (j + 1) = ys.take j ++ [t] := by rw [HT.out, List.take_succ_eq_append_getElem]
      have HTX := Aside.mk tx
      have HTY := Aside.mk ty
      clear tx ty
      by_cases he : s = t
      · have q1 : (s.toList == t.toList) = true := by rw [beq_iff_eq, he]
        have q2 : (s.toList != t.toList) = false := by rw [bne_eq_false_iff_eq, he]
        have HE := Aside.mk he
        clear he
        go_wp2
        go_quiet (fail)
        go_wp2
        go_roundg m
        case measure => omega
        case rel => exact ⟨j + 1, by go_num, ⟨by have := HJ.out.1; omega, by rw [HTX.out, HTY.out, HJ.out.2.1, HE.out], below_then HJ.out.2.2 (below_drewN _ _)⟩⟩
      · have q1 : (s.toList == t.toList) = false := by rw [beq_eq_false_iff_ne]; exact fun e => he (ba_eq.1 e)
        have q2 : (s.toList != t.toList) = true := by rw [bne_iff_ne]; exact fun e => he (ba_eq.1 e)
        have HE := Aside.mk (show decide (xs = ys) = false by
          rw [decide_eq_false_iff_not]
          rintro rfl
          exact he (by rw [HS.out, HT.out]))
        clear he
        go_wp2
        go_quiet (fail)
        go_wp2
        go_ret
        exact ⟨congrArg (fun b => Ending.returned (.bool b)) HE.out.symm, below_then HJ.out.2.2 (below_drewN _ _)⟩
    · have HE := Aside.mk (show decide (xs = ys) = true by
        rw [decide_eq_true_iff]
        have h1 := HJ.out.2.1
        have h2 := HN.out
        rwa [List.take_of_length_le (by omega), List.take_of_length_le (by omega)] at h1)
      go_wp2
      go_ret
      exact ⟨congrArg (fun b => Ending.returned (.bool b)) HE.out.symm, HJ.out.2.2⟩
theorem texts {w : World} {av av' : Nat → Prop} {v u : Value} {xs ys : List ByteArray} (hx : RS w av v xs) (hy : RS w av' u ys) (hm : xs.length ≤ 100000000) :
    Calls Tryd.prog 12 #[v, u] w fun e w' => e = .returned (.bool (decide (xs = ys))) ∧ Below w.heap.size w w' := by
  by_cases h : xs.length = ys.length
  · exact texts_loop hx hy h hm
  · rw [decide_eq_false (fun e => h (by rw [e]))]
    exact texts_len hx hy h
end Go.Proofs.YtglmnglaliljdaaDoor
